/- A part of the proof that a connection answers as the document says: SyT SyU. -/
import Derived.Test.YtnlcpcmdlcakgaaGreatKh06
set_option maxRecDepth 100000
set_option maxHeartbeats 4000000
set_option linter.unusedVariables false
set_option linter.unusedSimpArgs false
set_option linter.unusedSectionVars false
namespace Go.Proofs.YtnlcpcmdlcakgaaGreat
namespace Sy
open Go Go.RowKit
def tn:Tm:= .tb .nil i9 i9 i9
def L7(s:Tm):Tm:= .tb .len s i9 i9
def aS0(k:Kd)(f:Nat)(s i:Tm):Tm:= .tb (.get k f) s i i9
def ak9:Tm:= .tb .row i9 i9 i9
def aB4(c:Cx):Tm->Tm
 | .tb o x y z=>match o with
   | .nil=> .il 0
   | .app=>U0 (aB4 c x) (aB4 c y)
   | .cut=>if X1 c (.le i9 y)&&(X1 c (.le y z)&&X1 c (.le z (aB4 c x)))then aB0 z y else L7 (.tb .cut x y z)
   | .set=>aB4 c x
   | .clr=>aB4 c x
   | .row=> .il 1
   | .cons _=> .il 1
   | o=>L7 (.tb o x y z)
 | t=>L7 t
theorem aH1{J:Env}{c:Cx}(hc:c.ok J):∀ t:Tm,(u9 J (aB4 c t)).i=((u9 J t).c.length:Int):=by
 intro t
 induction t with
 | tb o x y z i1 i2 i3=>
   cases o with
   | app=>
     show(u9 J (U0 (aB4 c x) (aB4 c y))).i=(((u9 J x).c++(u9 J y).c).length:Int);rw[X2,i1,i2];simp
   | clr=>
     show(u9 J (aB4 c x)).i=(((u9 J x).c.take (u9 J y).i.toNat++((u9 J x).c.drop (u9 J y).i.toNat).map an1).length:Int);rw[i1,az,aE,<-az,List.take_append_drop]
   | set=>
     show(u9 J (aB4 c x)).i=(((u9 J x).c.set _ _).length:Int);rw[i1];simp
   | cut=>
     simp only[aB4];split
     .rename_i q;simp only[m5]at q;have h1:=B2 (L0 hc q.1);have h2:=B2 (L0 hc q.2.1);have h3:=B2 (L0 hc q.2.2);rw[i1]at h3;change(0:Int)<=_ at h1;rw[aA6];show _=(((((u9 J x).c.drop (u9 J y).i.toNat).take ((u9 J z).i.toNat - (u9 J y).i.toNat)).length:Nat):Int);rw[aU,bo];omega
     .rfl
   | _=>rfl
 | _=>rfl
def KEq:Kd->Dn->Dn->Prop
 | .int _,x,y=>x.i=y.i
 | .bool,x,y=>x.b=y.b
 | .str,x,y=>x.s=y.s
 | .ptr,x,y=>x.i=y.i
 | .sls,x,y=>mkV .sls x=mkV .sls y
theorem KEq.dI5(k:Kd)(x:Dn):KEq k x x:=by cases k<;>rfl
theorem bK7(v:Value):slV (slV v)=slV v:=by cases v<;>rfl
theorem bj0(v:Value):kOK .sls (slV v):=by cases v<;>exact⟨_,_,_,rfl⟩
def bH4(c:Cx)(k:Kd):Tm->Nat->Option Tm
 | .tb o x y z,f=>match o with
   | .cons k'=>match f with
     | 0=>if ab4 k k' then(match k with
       | .int q=>some (ad5 c.bs q x)
       | .bool=>some x
       | .str=>if X1 c (.le (Q6 c x) qb2)then some x else none
       | .ptr=>if X1 c (.le i9 x)then some x else none
       | .sls=>some x)else none
     | f+1=>bH4 c k y f
   | _=>none
 | _,_=>none
theorem bp0{J:Env}{c:Cx}(hc:c.ok J){k:Kd}:∀{r:Tm} {f:Nat} {u:Tm},bH4 c k r f=some u->KEq k (u9 J u) (aF3 k (((u9 J r).c.headD []).getD f (.bool false))):=by
 intro r
 induction r with
 | tb o x y z i1 i2 i3=>
   intro f u h;cases o with
   | cons k'=>
     cases f with
     | zero=>
       simp only[bH4]at h;split at h
       .rename_i q;have q':=aw5 q;subst q';clear q;show KEq k (u9 J u) (aF3 k (mkV k (u9 J x)));cases k with
        | int q=>injection h with h;subst h;exact aV3 hc.bs q x
        | bool=>injection h with h;subst h;rfl
        | str=>
          simp only[]at h;split at h
          .rename_i q;injection h with h;subst h;have q:=B2 (L0 hc q);rw[Q8 hc]at q;change _<=(9223372036854775807:Int)at q;show _=(if(u9 J x).s.size<=9223372036854775807 then(u9 J x).s else K4);rw[if_pos U]
          .cases h
        | ptr=>
          simp only[]at h;split at h
          .rename_i q;injection h with h;subst h;have q:=B2 (L0 hc q);change(0:Int)<=_ at q;show _=(((u9 J x).i.toNat:Nat):Int);omega
          .cases h
        | sls=>
          injection h with h;subst h;show mkV .sls (u9 J x)=mkV .sls (dC [[slV (mkV .sls (u9 J x))]]);show slV _=slV (slV (slV _));rw[bK7,bK7]
       .cases h
     | succ f=>exact i2 (f:=f) h
   | _=>cases h
 | _=>intro f u h;cases h
def aJ2(c:Cx)(k:Kd)(f:Nat):Tm->Tm->Tm
 | .tb o x y z,i=>match o with
   | .app=>if X1 c (.le i9 i)then(if X1 c (.lt i (aB4 c x))then aJ2 c k f x i else if X1 c (.le (aB4 c x) i)then aJ2 c k f y (aB0 i (aB4 c x))else aS0 k f (.tb .app x y z) i)else aS0 k f (.tb .app x y z) i
   | .cut=>if X1 c (.le i9 y)&&(X1 c (.le i9 i)&&X1 c (.lt i (aB0 z y)))then aJ2 c k f x (U0 y i)else aS0 k f (.tb .cut x y z) i
   | .set=>if X1 c (.le i9 y)&&X1 c (.le i9 i)then
       (if X1 c (.eq y i)&&X1 c (.lt y (aB4 c x))then(match bH4 c k z f with
         | some u=>u
         | none=>aS0 k f (.tb .set x y z) i)
       else if X1 c (.not (.eq y i))then aJ2 c k f x i else aS0 k f (.tb .set x y z) i)
     else aS0 k f (.tb .set x y z) i
   | .cons k'=>if E7 i i9 then(match bH4 c k (.tb (.cons k') x y z) f with
       | some u=>u
       | none=>aS0 k f (.tb (.cons k') x y z) i)
     else aS0 k f (.tb (.cons k') x y z) i
   | o=>aS0 k f (.tb o x y z) i
 | t,i=>aS0 k f t i
theorem aY1{J:Env}(k:Kd)(f:Nat)(t i:Tm):KEq k (u9 J (aS0 k f t i)) (aF3 k (((u9 J t).c.getD (u9 J i).i.toNat []).getD f (.bool false))):=KEq.dI5 _ _
theorem eG5{J:Env}{x:Tm}(h:(u9 J (.not x)).b=true):(u9 J x).b=false:=by
 change(!(u9 J x).b)=true at h;simpa using h
theorem dD3{J:Env}{c:Cx}(hc:c.ok J){k:Kd}{f:Nat}:∀(t i:Tm),KEq k (u9 J (aJ2 c k f t i)) (aF3 k (((u9 J t).c.getD (u9 J i).i.toNat []).getD f (.bool false))):=by
 intro t
 induction t with
 | tb o x y z i1 i2 i3=>
   intro i;cases o with
   | app=>
     simp only[aJ2];split
     .rename_i q0;have q0:=B2 (L0 hc q0);change(0:Int)<=_ at q0;show KEq k _ (aF3 k ((((u9 J x).c++(u9 J y).c).getD (u9 J i).i.toNat []).getD f (.bool false)));split
      .rename_i q;have q:=aL4 (L0 hc q);rw[aH1 hc]at q;rw[show((u9 J x).c++(u9 J y).c).getD (u9 J i).i.toNat []=(u9 J x).c.getD (u9 J i).i.toNat []from by rw[List.getD,bk U];rfl];exact i1 i
      .split
       .rename_i q;have q:=B2 (L0 hc q);rw[aH1 hc]at q;rw[show((u9 J x).c++(u9 J y).c).getD (u9 J i).i.toNat []=(u9 J y).c.getD ((u9 J i).i.toNat - (u9 J x).c.length) []from by rw[List.getD,aO U];rfl];have:=i2 (aB0 i (aB4 c x));rw[aA6,aH1 hc]at this;rwa[show((u9 J i).i - ((u9 J x).c.length:Int)).toNat=(u9 J i).i.toNat - (u9 J x).c.length from by omega]at this
       .exact aY1 ..
     .exact aY1 ..
   | cut=>
     simp only[aJ2];split
     .rename_i q;simp only[m5]at q;have q0:=B2 (L0 hc q.1);have q1:=B2 (L0 hc q.2.1);have q2:=aL4 (L0 hc q.2.2);rw[aA6]at q2;change(0:Int)<=_ at q0;change(0:Int)<=_ at q1;have:=i1 (U0 y i);rw[X2,show((u9 J y).i+(u9 J i).i).toNat=(u9 J y).i.toNat+(u9 J i).i.toNat from by omega]at this;show KEq k _ (aF3 k ((((u9 J x).c.drop (u9 J y).i.toNat).take ((u9 J z).i.toNat - (u9 J y).i.toNat)).getD (u9 J i).i.toNat [] |>.getD f (.bool false)))
      have e:(((u9 J x).c.drop (u9 J y).i.toNat).take ((u9 J z).i.toNat - (u9 J y).i.toNat)).getD (u9 J i).i.toNat []=(u9 J x).c.getD ((u9 J y).i.toNat+(u9 J i).i.toNat) []:=by
       rw[List.getD,aL,if_pos U,aS];rfl
      rw[e];exact this
     .exact aY1 ..
   | set=>
     simp only[aJ2];split
     .rename_i q;simp only[m5]at q;have q0:=B2 (L0 hc q.1);have q1:=B2 (L0 hc q.2);change(0:Int)<=_ at q0;change(0:Int)<=_ at q1;show KEq k _ (aF3 k ((((u9 J x).c.set (u9 J y).i.toNat ((u9 J z).c.headD [])).getD (u9 J i).i.toNat []).getD f (.bool false)));split
      .rename_i q2;simp only[m5]at q2;have q3:=L0 hc q2.1;change((u9 J y).i==(u9 J i).i)=true at q3;have q3:(u9 J y).i=(u9 J i).i:=by simpa using q3
       have q4:=aL4 (L0 hc q2.2);rw[aH1 hc]at q4;split
       .rename_i u hu;have:=bp0 hc hu;rw[show((u9 J x).c.set (u9 J y).i.toNat ((u9 J z).c.headD [])).getD (u9 J i).i.toNat []=(u9 J z).c.headD []from by
         rw[q3,List.getD,List.getElem?_set_self U];rfl]
        exact this
       .exact aY1 ..
      .split
       .rename_i q2;have q3:=eG5 (L0 hc q2);change((u9 J y).i==(u9 J i).i)=false at q3;have q3:(u9 J y).i≠(u9 J i).i:=by simpa using q3
        rw[show((u9 J x).c.set (u9 J y).i.toNat ((u9 J z).c.headD [])).getD (u9 J i).i.toNat []=(u9 J x).c.getD (u9 J i).i.toNat []from by
         rw[List.getD,List.getElem?_set_ne U];rfl]
        exact i1 i
       .exact aY1 ..
     .exact aY1 ..
   | cons k'=>
     simp only[aJ2];split
     .rename_i q;rw[H9 q];split
      .rename_i u hu;exact bp0 hc hu
      .exact aY1 ..
     .exact aY1 ..
   | _=>exact aY1 ..
 | _=>intro i;exact aY1 ..
def bc4:Tm->Bool
 | .tb .nil _ _ _=>true
 | _=>false
theorem do8{J:Env}{t:Tm}(h:bc4 t=true):(u9 J t).c=[]:=by
 unfold bc4 at h;split at h
 .rfl
 .cases h
def bG8:Tm->Tm->Tm
 | .tb o a b z,y=>match o with
   | .nil=>y
   | .app=> .tb .app a (bG8 b y) i9
   | o=>if bc4 y then .tb o a b z else .tb .app (.tb o a b z) y i9
 | x,y=>if bc4 y then x else .tb .app x y i9
theorem b59{J:Env}(x y:Tm):(u9 J (if bc4 y then x else .tb .app x y i9)).c=(u9 J x).c++(u9 J y).c:=by
 split
 .rename_i q;rw[do8 q,ao]
 .rfl
theorem bj6{J:Env}:∀ x y:Tm,(u9 J (bG8 x y)).c=(u9 J x).c++(u9 J y).c:=by
 intro x
 induction x with
 | tb o a b z i1 i2 i3=>
   intro y;cases o with
   | nil=>rfl
   | app=>
     show(u9 J a).c++(u9 J (bG8 b y)).c=((u9 J a).c++(u9 J b).c)++(u9 J y).c;rw[i2,List.append_assoc]
   | _=>exact b59 _ y
 | _=>intro y;exact b59 _ y
def bA7(c:Cx)(s lo hi:Tm):Tm:=
 if E7 lo i9&&X1 c (.le (aB4 c s) hi)then s
 else if X1 c (.le i9 lo)&&X1 c (.le hi lo)then tn
 else match s with
  | .tb .cut x a b=>if X1 c (.le i9 a)&&(X1 c (.le i9 lo)&&X1 c (.le (U0 a hi) b))then .tb .cut x (U0 a lo) (U0 a hi)else .tb .cut s lo hi
  | s=> .tb .cut s lo hi
def bk7(l:List (List Value))(lo hi:Nat):List (List Value):=(l.drop lo).take (hi - lo)
theorem bu7{J:Env}(s lo hi:Tm):(u9 J (.tb .cut s lo hi)).c=bk7 (u9 J s).c (u9 J lo).i.toNat (u9 J hi).i.toNat:=rfl
theorem dn8{J:Env}{c:Cx}(hc:c.ok J)(s lo hi:Tm):(u9 J (bA7 c s lo hi)).c=bk7 (u9 J s).c (u9 J lo).i.toNat (u9 J hi).i.toNat:=by
 unfold bA7;split
 .rename_i q;simp only[m5]at q;have q2:=B2 (L0 hc q.2);rw[aH1 hc]at q2;rw[H9 q.1];show _=((u9 J s).c.drop 0).take ((u9 J hi).i.toNat - 0);rw[List.drop_zero,bh U]
 .split
  .rename_i q;simp only[m5]at q;have q1:=B2 (L0 hc q.1);have q2:=B2 (L0 hc q.2);unfold bk7;rw[show(u9 J hi).i.toNat - (u9 J lo).i.toNat=0 from by omega,List.take_zero];rfl
  .split
   .rename_i x a b _;split
    .rename_i q;simp only[m5]at q;have q1:=B2 (L0 hc q.1);have q2:=B2 (L0 hc q.2.1);have q3:=B2 (L0 hc q.2.2);rw[X2]at q3;change(0:Int)<=_ at q1;change(0:Int)<=_ at q2;rw[bu7,bu7,X2,X2];unfold bk7;rw[List.drop_take,List.take_take,List.drop_drop];rw[show((u9 J a).i+(u9 J lo).i).toNat=(u9 J a).i.toNat+(u9 J lo).i.toNat from by omega];congr 1;omega
    .exact bu7 ..
   .exact bu7 ..
def ab5(c:Cx):List C->List Kd->Option (List Tm × Tm)
 | [],[]=>some ([],ak9)
 | .int k x::cs, .int k'::lv=>if Nat.beq (kNo k) (kNo k')then(match ab5 c cs lv with
   | some (m,r)=>some (F9 c (.le (.il (aQ0 k)) x)++(F9 c (.le x (.il (aQ1 k)))++m), .tb (.cons (.int k)) x r i9)
   | none=>none)else none
 | .bool x::cs, .bool::lv=>match ab5 c cs lv with
   | some (m,r)=>some (m, .tb qb4 x r i9)
   | none=>none
 | .str x::cs, .str::lv=>match ab5 c cs lv with
   | some (m,r)=>some (F9 c (.le (Q6 c x) qb2)++m, .tb (.cons .str) x r i9)
   | none=>none
 | .ptv x::cs, .ptr::lv=>match ab5 c cs lv with
   | some (m,r)=>some (m, .tb (.cons .ptr) x r i9)
   | none=>none
 | .vls x::cs, .sls::lv=>match ab5 c cs lv with
   | some (m,r)=>some (m, .tb (.cons .sls) x r i9)
   | none=>none
 | .nslc::cs, .sls::lv=>match ab5 c cs lv with
   | some (m,r)=>some (m, .tb (.cons .sls) qbx r i9)
   | none=>none
 | _,_=>none
theorem eT1{k:IntKind}{n:Int}(h1:aQ0 k<=n)(h2:n<=aQ1 k):(Lit.int k n).wf=true:=by
 cases k<;>simp only[aQ0,aQ1]at h1 h2<;>simp only[Lit.wf,IntKind.min,IntKind.max,IntKind.bits,IntKind.signed,m5,aB]<;>simp<;>omega
theorem aK2{k:IntKind}{n:Int}(h:(Lit.int k n).wf=true):aQ0 k<=n/\n<=aQ1 k:=by
 cases k<;>simp only[Lit.wf,IntKind.min,IntKind.max,IntKind.bits,IntKind.signed,m5,aB]at h<;>simp at h<;>simp only[aQ0,aQ1]<;>omega
theorem aw6{J:Env}{N:Bn}{c:Cx}(hc:c.ok J):∀{cs:List C} {lv:List Kd} {m:List Tm} {r:Tm},ab5 c cs lv=some (m,r)->Met J m->(u9 J r).c=[A5 J N cs]/\S1 lv (A5 J N cs):=by
 intro cs
 induction cs with
 | nil=>
   intro lv m r h hm;cases lv with
   | nil=>injection h with h;injection h with h1 h2;subst h1 h2;exact⟨rfl,trivial⟩
   | cons k lv=>cases h
 | cons x cs ih=>
   intro lv m r h hm;unfold ab5 at h;split at h
   .rename_i e;cases e
   .rename_i k x' cs' k' lv' e;injection e with e1 e2;subst e1 e2;split at h
    .rename_i q;have q:=ac1 (af q);subst q;split at h
     .rename_i m' r' hr;injection h with h;injection h with h1 h2;subst h1 h2;obtain⟨i1,i2⟩:=ih hr hm.r.r;have b1:=B2 (z0 hc hm.l);have b2:=B2 (z0 hc hm.r.l);refine⟨?_,⟨_,rfl,eT1 b1 b2⟩,i2⟩;show [_::(u9 J r').c.headD []]=_;rw[i1];rfl
     .cases h
    .cases h
   .rename_i x' cs' lv' e;injection e with e1 e2;subst e1 e2;split at h
    .rename_i m' r' hr;injection h with h;injection h with h1 h2;subst h1 h2;obtain⟨i1,i2⟩:=ih hr hm;refine⟨?_,⟨_,rfl⟩,i2⟩;show [_::(u9 J r').c.headD []]=_;rw[i1];rfl
    .cases h
   .rename_i x' cs' lv' e;injection e with e1 e2;subst e1 e2;split at h
    .rename_i m' r' hr;injection h with h;injection h with h1 h2;subst h1 h2;obtain⟨i1,i2⟩:=ih hr hm.r;have b2:=B2 (z0 hc hm.l);rw[Q8 hc]at b2;change _<=(9223372036854775807:Int)at b2;refine⟨?_,⟨_,rfl,by simp only[maxLen];omega⟩,i2⟩;show [_::(u9 J r').c.headD []]=_;rw[i1];rfl
    .cases h
   .rename_i x' cs' lv' e;injection e with e1 e2;subst e1 e2;split at h
    .rename_i m' r' hr;injection h with h;injection h with h1 h2;subst h1 h2;obtain⟨i1,i2⟩:=ih hr hm;refine⟨?_,⟨_,rfl⟩,i2⟩;show [_::(u9 J r').c.headD []]=_;rw[i1];rfl
    .cases h
   .rename_i x' cs' lv' e;injection e with e1 e2;subst e1 e2;split at h
    .rename_i m' r' hr;injection h with h;injection h with h1 h2;subst h1 h2;obtain⟨i1,i2⟩:=ih hr hm;refine⟨?_,bj0 _,i2⟩;show [_::(u9 J r').c.headD []]=_;rw[i1];rfl
    .cases h
   .rename_i cs' lv' e;injection e with e1 e2;subst e1 e2;split at h
    .rename_i m' r' hr;injection h with h;injection h with h1 h2;subst h1 h2;obtain⟨i1,i2⟩:=ih hr hm;refine⟨?_,⟨_,_,_,rfl⟩,i2⟩;show [_::(u9 J r').c.headD []]=_;rw[i1];rfl
    .cases h
   .cases h
theorem aA7:∀{lv:List Kd} {vs:List Value},S1 lv vs->vs.length=lv.length
 | [],[],_=>rfl
 | _::_,_::_,h=>by simp[aA7 h.2]
 | [],_::_,h=>h.elim
 | _::_,[],h=>h.elim
theorem b67:∀{lv:List Kd} {vs:List Value},S1 lv vs->∀{j:Nat} {k:Kd},lv[j]? =some k->∃ v,vs[j]? =some v/\kOK k v
 | _::_,_::_,h,0,k,hx=>by
   simp at hx;subst hx;exact⟨_,rfl,h.1⟩
 | _::_,_::_,h,j+1,k,hx=>b67 h.2 (by simpa using hx)
 | [],[],_,_,_,hx=>by simp at hx
 | [],_::_,h,_,_,_=>h.elim
 | _::_,[],h,_,_,_=>h.elim
theorem do7{k:Kd}{v:Value}(h:kOK k v):v.oneCell'=true:=by
 cases k with
 | int k=>obtain⟨n,rfl,_⟩:=h;rfl
 | bool=>obtain⟨b,rfl⟩:=h;rfl
 | str=>obtain⟨s,rfl,_⟩:=h;rfl
 | ptr=>obtain⟨n,rfl⟩:=h;rfl
 | sls=>obtain⟨a,n,c,rfl⟩:=h;rfl
theorem b66:∀{lv:List Kd} {vs:List Value},S1 lv vs->∀ v∈vs,v.oneCell'=true
 | _::_,_::_,h,v,hv=>by
   rcases aa.1 hv with rfl|hv
   .exact do7 h.1
   .exact b66 h.2 v hv
 | [],[],_,v,hv=>by simp at hv
 | [],_::_,h,_,_=>h.elim
 | _::_,[],h,_,_=>h.elim
theorem bo8:∀{lv:List Kd} {vs:List Value} (n:Nat),S1 lv vs->S1 (lv.drop n) (vs.drop n)
 | _,_,0,h=>h
 | _::_,_::_,n+1,h=>bo8 n h.2
 | [],[],_+1,h=>trivial
 | [],_::_,_,h=>h.elim
 | _::_,[],_,h=>h.elim
theorem bo7:∀{lv:List Kd} {vs:List Value} (n:Nat),S1 lv vs->S1 (lv.take n) (vs.take n)
 | [],[],n,h=>by simp;trivial
 | _::_,_::_,0,h=>trivial
 | _::_,_::_,n+1,h=>⟨h.1,bo7 n h.2⟩
 | [],_::_,_,h=>h.elim
 | _::_,[],_,h=>h.elim
def bd4(c:Cx)(t i:Tm)(k:Kd)(f:Nat):C:=
 match k with
 | .int q=> .int q (aJ2 c (.int q) f t i)
 | .bool=> .bool (aJ2 c .bool f t i)
 | .str=> .str (aJ2 c .str f t i)
 | .ptr=> .ptv (aJ2 c .ptr f t i)
 | .sls=> .vls (aJ2 c .sls f t i)
theorem bT3{J:Env}{N:Bn}{c:Cx}(hc:c.ok J){t i:Tm}{k:Kd}{f:Nat}{v:Value}(hv:((u9 J t).c.getD (u9 J i).i.toNat [])[f]? =some v)(hk:kOK k v):(bd4 c t i k f).G2 J N=v:=by
 have h:=dD3 hc (k:=k) (f:=f) t i;rw[show(((u9 J t).c.getD (u9 J i).i.toNat []).getD f (.bool false))=v from by rw[List.getD,hv];rfl]at h;cases k with
 | int q=>
   obtain⟨n,rfl,hw⟩:=hk;obtain⟨b1,b2⟩:=aK2 hw;show Value.int q (u9 J (aJ2 c (.int q) f t i)).i=_;rw[show(u9 J (aJ2 c (.int q) f t i)).i=q.wrap n from h,aU9 b1 b2]
 | bool=>
   obtain⟨b,rfl⟩:=hk;show Value.bool (u9 J (aJ2 c .bool f t i)).b=_;rw[show(u9 J (aJ2 c .bool f t i)).b=b from h]
 | str=>
   obtain⟨s,rfl,hs⟩:=hk;show Value.string (u9 J (aJ2 c .str f t i)).s=_;rw[show(u9 J (aJ2 c .str f t i)).s=(if s.size<=9223372036854775807 then s else K4)from h,if_pos (show s.size<=9223372036854775807 from hs)]
 | ptr=>
   obtain⟨n,rfl⟩:=hk;show Value.pointer (some ⟨(u9 J (aJ2 c .ptr f t i)).i.toNat,0,none⟩)=_;rw[show(u9 J (aJ2 c .ptr f t i)).i=(n:Int)from h,aK]
 | sls=>
   obtain⟨a,n,cp,rfl⟩:=hk;exact h
def aj4(c:Cx)(t i:Tm):List Kd->Nat->List C
 | [],_=>[]
 | k::lv,f=>bd4 c t i k f::aj4 c t i lv (f+1)
theorem bH7{J:Env}{N:Bn}{c:Cx}(hc:c.ok J){t i:Tm}:∀{lv:List Kd} {f:Nat} {vs:List Value},S1 lv vs->(∀ j v,vs[j]? =some v->((u9 J t).c.getD (u9 J i).i.toNat [])[f+j]? =some v)->A5 J N (aj4 c t i lv f)=vs
 | [],_,[],_,_=>rfl
 | k::lv,f,v::vs,h,hv=>by
   show _::A5 J N (aj4 c t i lv (f+1))=_;rw[bT3 hc (f:=f) (hv 0 v rfl) h.1,bH7 hc h.2 (fun j u hu=>by
    have:=hv (j+1) u (by simpa using hu);rwa[show f+(j+1)=f+1+j from by omega]at this)]
 | [],_,_::_,h,_=>h.elim
 | _::_,_,[],h,_=>h.elim
def aA9(cs:List Value)(off:Nat)(vs:List Value):List Value:=cs.take off++(vs++cs.drop (off+vs.length))
theorem az7{cs:List Value}{o:Nat}{vs:List Value}(h:o+vs.length<=cs.length):(aA9 cs o vs).length=cs.length:=by
 unfold aA9;simp only[az,aU,bo];omega
theorem at3{a b:List Value}{o:Nat}{vs:List Value}(h:o+vs.length<=a.length):aA9 (a++b) o vs=aA9 a o vs++b:=by
 unfold aA9;rw[List.take_append_of_le_length U,List.drop_append_of_le_length h];simp only[List.append_assoc]
theorem aS2{a b:List Value}{o:Nat}{vs:List Value}:aA9 (a++b) (a.length+o) vs=a++aA9 b o vs:=by
 unfold aA9;rw[show a.length+o+vs.length=a.length+(o+vs.length)from by omega,List.take_length_add_append,List.drop_length_add_append];simp only[List.append_assoc]
section
variable{m:Nat}
theorem aP2:∀{l:List (List Value)},(∀ r∈l,r.length=m)->l.flatten.length=l.length*m
 | [],_=>by simp
 | r::l,h=>by
   rw[List.flatten_cons,az,h r (ae ..),aP2 fun x hx=>h x (aj _ hx),List.length_cons,Nat.succ_mul];omega
theorem ax3:∀{l:List (List Value)},(∀ r∈l,r.length=m)->∀{i f:Nat},i<l.length->f<m->l.flatten[i*m+f]? =(l.getD i [])[f]?
 | [],_,_,_,hi,_=>by simp at hi
 | r::l,h,0,f,_,hf=>by
   have hr:=h r (ae ..);rw[List.flatten_cons,bk U];simp
 | r::l,h,i+1,f,hi,hf=>by
   have hr:=h r (ae ..);have:=ax3 (fun x hx=>h x (aj _ hx)) (i:=i) (f:=f) bQ hf;rw[List.flatten_cons,aO (by rw[hr,Nat.succ_mul];omega),hr];rw[show(i+1)*m+f - m=i*m+f from by rw[Nat.succ_mul];omega,this];simp
theorem bp4{vs:List Value}:∀{l:List (List Value)},(∀ r∈l,r.length=m)->∀{i f:Nat},i<l.length->f+vs.length<=m->aA9 l.flatten (i*m+f) vs=(l.set i (aA9 (l.getD i []) f vs)).flatten
 | [],_,_,_,hi,_=>by simp at hi
 | r::l,h,0,f,_,hf=>by
   have hr:=h r (ae ..);rw[List.flatten_cons,Nat.zero_mul,Nat.zero_add,at3 U];rfl
 | r::l,h,i+1,f,hi,hf=>by
   have hr:=h r (ae ..);have:=bp4 (fun x hx=>h x (aj _ hx)) (i:=i) (f:=f) bQ hf;rw[List.flatten_cons,show(i+1)*m+f=r.length+(i*m+f)from by rw[Nat.succ_mul];omega,aS2,this];rfl
end
def a18:List Ins->Nat->Nat->Option Nat
 | [],len,off=>if Nat.blt off len then some off else none
 | x::l,len,off=>if Nat.ble x.pos len then
    (if Nat.blt off x.pos then some off else if Nat.blt off (x.pos+x.n*x.lv.length)then none else(a18 l (len - x.pos) (off - (x.pos+x.n*x.lv.length))).map (· +x.pos))
   else none
theorem b68{J:Env}{x:Ins}{l:List Ins}(h:insOk J (x::l)):(Sy.u9 J x.t).c.flatten.length=x.n*x.lv.length:=by
 have hx:=h x (ae ..);rw[aP2 (m:=x.lv.length) fun r hr=>aA7 (hx.2 r hr),hx.1]
theorem insOk.dE9{J:Env}{x:Ins}{l:List Ins}(h:insOk J (x::l)):insOk J l:=fun z hz=>h z (aj _ hz)
theorem bF9{cs:List Value}{j:Nat}{v:Value}(h:j<cs.length):cs.set j v=aA9 cs j [v]:=by
 unfold aA9;rw[List.set_eq_take_append_cons_drop,if_pos h];rfl
theorem a50{J:Env}:∀{ins:List Ins} {cs:List Value} {off j:Nat},a18 ins cs.length off=some j->insOk J ins->j<cs.length/\(aC2 J cs ins)[off]? =cs[j]? /\∀ v,aA9 (aC2 J cs ins) off [v]=aC2 J (cs.set j v) ins
 | [],cs,off,j,h,_=>by
   simp only[a18]at h;split at h
   .rename_i q;have q:off<cs.length:=au q;injection h with h;subst h;exact⟨q,rfl,fun v=>(bF9 q).symm⟩
   .cases h
 | x::l,cs,off,j,h,hok=>by
   simp only[a18]at h;have hf:=b68 hok;split at h
   .rename_i q;have q:x.pos<=cs.length:=au q;have hlt:(cs.take x.pos).length=x.pos:=by rw[aU];omega
    split at h
    .rename_i q2;have q2:off<x.pos:=au q2;injection h with h;subst h;refine⟨by omega,?_,fun v=>?_⟩
     .rw[aC2,bk U,aL,if_pos q2]
     .rw[aC2,aC2,at3 bP,<-bF9 U,List.take_set,List.drop_set_of_lt q2]
    .rename_i q2;have q2:¬off<x.pos:=fun e=>q2 (Nat.ble_eq_true_of_le e)
     split at h
     .cases h
     .rename_i q3;have q3:¬off<x.pos+x.n*x.lv.length:=fun e=>q3 (Nat.ble_eq_true_of_le e)
      cases hq:a18 l (cs.length - x.pos) (off - (x.pos+x.n*x.lv.length))with
      | none=>rw[hq]at h;cases h
      | some j'=>
        rw[hq]at h;injection h with h;change j'+x.pos=j at h;rw[show cs.length - x.pos=(cs.drop x.pos).length from by simp]at hq;obtain⟨i1,i2,i3⟩:=a50 hq hok.dE9;have e:off=(cs.take x.pos).length+(((Sy.u9 J x.t).c.flatten).length+(off - (x.pos+x.n*x.lv.length))):=by omega
        rw[bo]at i1;subst h;refine⟨by omega,?_,fun v=>?_⟩
        .rw[aC2,aO U,aO U];rw[show off - (cs.take x.pos).length - ((Sy.u9 J x.t).c.flatten).length=off - (x.pos+x.n*x.lv.length)from by omega,i2,aS,Nat.add_comm]
        .rw[aC2,aC2]
         conv=>lhs;rw[e]
         rw[aS2,aS2,i3];congr 1
         .rw[List.take_set_of_le U]
         .congr 2;rw[List.drop_set,if_neg U,Nat.add_sub_cancel]
   .cases h
def bu4:List Ins->Nat->Nat->Option Ins
 | [],_,_=>none
 | x::l,len,base=>if Nat.ble x.pos len then
    (if Nat.beq base x.pos then some x else if Nat.ble (x.pos+x.n*x.lv.length) base then bu4 l (len - x.pos) (base - (x.pos+x.n*x.lv.length))else none)
   else none
def aj2:List Ins->Nat->Tm->List Ins
 | [],_,_=>[]
 | x::l,base,t=>if Nat.beq base x.pos then{ x with t:=t }::l else x::aj2 l (base - (x.pos+x.n*x.lv.length)) t
theorem bS5{J:Env}:∀{ins:List Ins} {cs:List Value} {base:Nat} {x:Ins},bu4 ins cs.length base=some x->insOk J ins->
 ((Sy.u9 J x.t).c.length=x.n/\∀ r∈(Sy.u9 J x.t).c,S1 x.lv r)/\(∀ o,o<x.n*x.lv.length->(aC2 J cs ins)[base+o]? =(Sy.u9 J x.t).c.flatten[o]?)/\
 ∀(t:Tm) (o:Nat) (vs:List Value),o+vs.length<=x.n*x.lv.length->(Sy.u9 J t).c.flatten=aA9 (Sy.u9 J x.t).c.flatten o vs->(Sy.u9 J t).c.length=x.n->(∀ r∈(Sy.u9 J t).c,S1 x.lv r)->
  aA9 (aC2 J cs ins) (base+o) vs=aC2 J cs (aj2 ins base t)/\insOk J (aj2 ins base t)
 | [],cs,base,x,h,_=>by cases h
 | y::l,cs,base,x,h,hok=>by
   simp only[bu4]at h;have hf:=b68 hok;split at h
   .rename_i q;have q:y.pos<=cs.length:=au q;have hlt:(cs.take y.pos).length=y.pos:=by rw[aU];omega
    split at h
    .rename_i q2;have q2':=af q2;injection h with h;subst h;refine⟨hok _ (ae ..),fun o ho=>?_,fun t o vs hv ht hn hk=>⟨?_,?_⟩⟩
     .rw[aC2,aO U,bk U];congr 1;omega
     .simp only[aj2,q2,if_true,aC2];rw[ht,show base+o=(cs.take y.pos).length+o from by omega,aS2,at3 U]
     .simp only[aj2,q2,if_true];intro z hz;rcases aa.1 hz with rfl|hz
      .exact⟨hn,hk⟩
      .exact hok.dE9 z hz
    .rename_i q2;split at h
     .rename_i q3;have q3:=au q3;rw[show cs.length - y.pos=(cs.drop y.pos).length from by simp]at h;obtain⟨i1,i2,i3⟩:=bS5 h hok.dE9;refine⟨i1,fun o ho=>?_,fun t o vs hv ht hn hk=>?_⟩
      .rw[aC2,aO U,aO U,<-i2 o ho];congr 1;omega
      .obtain⟨j1,j2⟩:=i3 t o vs hv ht hn hk;have e:base+o=(cs.take y.pos).length+(((Sy.u9 J y.t).c.flatten).length+(base - (y.pos+y.n*y.lv.length)+o)):=by omega
       have hb:Nat.beq base y.pos=false:=by
        cases hq:Nat.beq base y.pos with
        | true=>exact absurd hq q2
        | false=>rfl
       simp only[aj2,hb,ax,if_false,aC2];refine⟨?_,fun z hz=>?_⟩
       .rw[e,aS2,aS2,j1]
       .rcases aa.1 hz with rfl|hz
        .exact hok _ (ae ..)
        .exact j2 z hz
     .cases h
   .cases h
def as6(c:Cx)(b:Bk)(base m:Nat):Option (List Kd × Tm × Tm):=
 match b.str,b.x with
 | none, .tab lv t=>if Nat.beq base 0&&Nat.beq m lv.length then some (lv,t,aB4 c t)else none
 | none, .arr ins=>match bu4 ins b.cs.length base with
   | some x=>if Nat.beq m x.lv.length then some (x.lv,x.t, .il x.n)else none
   | none=>none
 | _,_=>none
structure TabOk(J:Env)(N:Bn)(w:World)(b:Bk)(base m:Nat)(lv:List Kd)(t L:Tm):Prop where
 mm:m=lv.length
 len:(u9 J L).i=((u9 J t).c.length:Int)
 ok:∀ r∈(u9 J t).c,S1 lv r
 cell:∀ i f v,i<(u9 J t).c.length->((u9 J t).c.getD i [])[f]? =some v->w.cell? ⟨N b.l,base+i*m+f,none⟩=some v
 froz:∀ o,0<(u9 J t).c.length->w.frozen? ⟨N b.l,o,none⟩=false
 real:0<(u9 J t).c.length->b.G0 N
theorem aW5{l:List (List Value)}{i:Nat}(h:i<l.length):l.getD i []∈l:=by
 rw[List.getD,ar h];exact List.getElem_mem h
section
variable{w:World}{g c:Nat}{ty:TypeId}{lv:List Kd}{l:List (List Value)}
theorem RowT.blk(h:RowT w g c ty lv l)(hc:c≠0):∃ cur:List Value,Blk w g ty cur/\cur.length=c*lv.length/\c<=maxLen/\cur.take (l.length*lv.length)=l.flatten:=by
 obtain⟨cur,h1,h2,h3,h4⟩:=h.row hc;refine⟨cur.toList,?_,by simpa using h2,h3,h4⟩;unfold Blk;rw[h1]
theorem RowT.cr9{cur:List Value}(h:Blk w g ty cur)(h1:cur.length=c*lv.length)(h2:c<=maxLen)(h3:cur.take (l.length*lv.length)=l.flatten)(h4:l.length<=c)(h5:∀ r∈l,S1 lv r):RowT w g c ty lv l:=
 ⟨fun _=>⟨cur.toArray,h,by simpa using h1,h2,by simpa using h3⟩,h4,h5⟩
theorem RowT.dI3(h:RowT w g c ty lv l):∀ r∈l,r.length=lv.length:=fun r hr=>aA7 (h.ok r hr)
theorem RowT.eJ2(h:RowT w g c ty lv l):l.flatten.length=l.length*lv.length:=aP2 h.dI3
theorem RowT.eJ3(h:RowT w g c ty lv l){i f:Nat}{v:Value}(hi:i<l.length)(hv:(l.getD i [])[f]? =some v):w.cell? ⟨g,i*lv.length+f,none⟩=some v:=by
 have hl:=h.len;obtain⟨cur,hb,h1,h2,h3⟩:=h.blk U;have hf:f<lv.length:=by
  have:=aA7 (h.ok _ (aW5 hi));have:=(List.getElem?_eq_some_iff.1 hv).1;omega
 have hg:=ax3 h.dI3 hi hf;rw[hb.ag8,<-hv,<-hg,<-h3,aL,if_pos];have:(i+1)*lv.length<=l.length*lv.length:=Nat.mul_le_mul_right _ hi;rw[Nat.succ_mul]at this;omega
theorem RowT.eb8(h:RowT w g c ty lv l)(hc:c≠0)(o:Nat):w.frozen? ⟨g,o,none⟩=false:=by
 obtain⟨cur,hb,_⟩:=h.blk hc;exact hb.Z5 o
theorem RowT.bC7(w:World)(g:Nat)(ty:TypeId)(lv:List Kd):RowT w g 0 ty lv []:=⟨fun h=>absurd rfl h,aI _,fun _ h=>bF⟩
end
theorem bR3{J:Env}{N:Bn}{w:World}{c:Cx}(hc:c.ok J){b:Bk}(hb:BkOk J N w b){base m:Nat}{lv:List Kd}{t L:Tm}(h:as6 c b base m=some (lv,t,L)):TabOk J N w b base m lv t L:=by
 unfold as6 at h;unfold BkOk at hb;split at h
 .rename_i lv' t' hs hx;rw[hs,hx]at hb;have hb:RowT w (N b.l) (N (b.l+1)) b.ty lv' (u9 J t').c:=hb;split at h
  .rename_i q;simp only[m5]at q;have q1:=af q.1;have q2:=af q.2;injection h with h;injection h with h1 h2;injection h2 with h2 h3;subst h1 h2 h3 q1 q2;have hl:=hb.len;exact⟨rfl,aH1 hc _,hb.ok,fun i f v hi hv=>by rw[Nat.zero_add];exact hb.eJ3 hi hv,fun o ho=>hb.eb8 U o,fun ho=> .inr U⟩
  .cases h
 .rename_i ins hs hx;rw[hs,hx]at hb;have hb:Blk w (N b.l) b.ty (aC2 J (A5 J N b.cs) ins)/\insOk J ins:=hb;split at h
  .rename_i x hi;split at h
   .rename_i q;have q:=af q;injection h with h;injection h with h1 h2;injection h2 with h2 h3;subst h1 h2 h3 q;rw[<-U5 (J:=J) (N:=N)]at hi;obtain⟨⟨i1,i2⟩,i3,_⟩:=bS5 hi hb.2;refine⟨rfl,by rw[i1];rfl,i2,fun i f v hlt hv=>?_,fun o _=>hb.1.Z5 o,fun _=> .inl bI⟩
    have hf:f<x.lv.length:=by
     have:=aA7 (i2 _ (aW5 hlt));have:=(List.getElem?_eq_some_iff.1 hv).1;omega
    have hg:=ax3 (m:=x.lv.length) (fun r hr=>aA7 (i2 r hr)) hlt hf;rw[hb.1.ag8,Nat.add_assoc,i3,hg,hv];have:(i+1)*x.lv.length<=x.n*x.lv.length:=Nat.mul_le_mul_right _ U;rw[Nat.succ_mul]at this;omega
   .cases h
  .cases h
 .cases h
def cV7(ins:List Ins)(len off k:Nat):Option Nat:=
 match a18 ins len off with
 | some j=>if(List.range k).all fun i=>match a18 ins len (off+i)with
    | some j'=>Nat.beq j' (j+i)
    | none=>false
   then some j else none
 | none=>none
theorem cJ0{ins:List Ins}{len off k j:Nat}(h:cV7 ins len off k=some j):∀ i,i<k->a18 ins len (off+i)=some (j+i):=by
 unfold cV7 at h;split at h
 .rename_i j0 h0;split at h
  .rename_i q;injection h with h;subst h;intro i hi;have:=av.1 q i (List.mem_range.2 hi);split at this
   .rename_i j' hj;rw[hj,af this]
   .cases this
  .cases h
 .cases h
def bu2(P:Program)(c:Cx)(hp:List Bk)(t:TypeId)(x:SV):Option V1:=
 match x with
 | .one (.c (.pta l base m i f))=>match aD0 l hp with
   | some b=>match as6 c b base m with
     | some (lv,tt,L)=>if X1 c (.le i9 i)&&X1 c (.lt i L)then
        match P.underlying t with
        | some d=>if bR8 d then(match P.info? t with
           | some inf=>if Nat.ble (f+inf.size) lv.length then some (.agg (aj4 c tt i ((lv.drop f).take inf.size) f))else none
           | none=>none)
          else(lv[f]?).map fun k=> .c (bd4 c tt i k f)
        | none=>none
       else none
     | none=>none
   | none=>none
 | .one (.c (.ptr l off))=>match aD0 l hp with
   | some b=>match b.str,b.x with
     | none, .arr ins=>match P.underlying t with
       | some d=>if bR8 d then(match P.info? t with
          | some inf=>match cV7 ins b.cs.length off inf.size with
            | some j=>if Nat.ble (j+inf.size) b.cs.length then some (.agg ((b.cs.take (j+inf.size)).drop j))else none
            | none=>none
          | none=>none)
         else match a18 ins b.cs.length off with
          | some j=>(b.cs[j]?).map .c
          | none=>none
       | none=>none
     | _,_=>none
   | none=>none
 | _=>none
theorem dE3{J:Env}{N:Bn}{P:Program}{c:Cx}(hc:c.ok J){hp:List Bk}{t:TypeId}{x:SV}{v:V1}(h:bu2 P c hp t x=some v){w:World}(hb:∀ b∈hp,BkOk J N w b):
 (Instr.loadAt t (x.A1 J N)).run P w= .ok (v.W7 J N) w:=by
 unfold bu2 at h;split at h
 .rename_i l base m i f;split at h
  .rename_i b hf;have hm:=U4 hf;split at h
   .rename_i lv tt L ht;have T:=bR3 hc (hb b hm.1) ht;split at h
    .rename_i q;simp only[m5]at q;have q0:=B2 (L0 hc q.1);have q1:=aL4 (L0 hc q.2);change(0:Int)<=_ at q0;rw[T.len]at q1;have hi:(u9 J i).i.toNat<(u9 J tt).c.length:=by omega
     have hk:=T.ok _ (aW5 hi);have hkl:=aA7 hk;have hmm:=T.mm;split at h
     .rename_i d hu;show(Instr.loadAt t (.pointer (some ⟨N l,base+(u9 J i).i.toNat*m+f,none⟩))).run P w=_;rw[<-hm.2];split at h
      .rename_i hr;split at h
       .rename_i inf hinf;split at h
        .rename_i q2;have q2:=au q2;injection h with h;subst h;have hden:A5 J N (aj4 c tt i ((lv.drop f).take inf.size) f)=(((u9 J tt).c.getD (u9 J i).i.toNat []).drop f).take inf.size:=by
          refine bH7 hc (bo7 _ (bo8 _ hk)) fun j v hv=>?_
          rw[aL,aS]at hv;split at hv
          .exact hv
          .cases hv
         show _=Result.ok (Value.agg (A5 J N _).toArray) w;rw[hden];refine run_loadAt_mid w (N b.l) _ t _ d ?_ hu cg ?_
         .intro j u hj;rw[aL,aS]at hj;split at hj
          .have:=T.cell _ _ _ hi hj;rw[<-Nat.add_assoc]at this;exact this
          .cases hj
         .rw[hinf];show some inf.size=some _;congr 1;rw[aU,bo,hkl];omega
        .cases h
       .cases h
      .rename_i hr;cases hlf:lv[f]? with
       | none=>rw[hlf]at h;cases h
       | some k=>
         rw[hlf]at h;injection h with h;subst h;obtain⟨v,hv,hkv⟩:=b67 hk hlf;show _=Result.ok ((bd4 c tt i k f).G2 J N) w;rw[bT3 hc hv hkv];exact ap4 hu (by simpa using hr) (T.cell _ _ _ hi hv)
     .cases h
    .cases h
   .cases h
  .cases h
 .rename_i l off;split at h
  .rename_i b hf;have hm:=U4 hf;have hB0:=hb b hm.1;unfold BkOk at hB0;split at h
   .rename_i ins hs hx;rw[hs,hx]at hB0;have hB:Blk w (N b.l) b.ty (aC2 J (A5 J N b.cs) ins)/\insOk J ins:=hB0;split at h
    .rename_i d hu;show(Instr.loadAt t (.pointer (some ⟨N l,off,none⟩))).run P w=_;rw[<-hm.2];split at h
     .rename_i hr;split at h
      .rename_i inf hinf;split at h
       .rename_i j hj;split at h
        .rename_i q;have q:=au q;injection h with h;subst h;have hloc:=cJ0 hj;refine run_loadAt_mid w (N b.l) off t _ d ?_ hu cg ?_
         .intro i u hi;have hlt:i<inf.size:=by
           have:=(List.getElem?_eq_some_iff.1 hi).1;rw[U5,bo,aU]at this;omega
          have hl:=hloc i hlt;rw[<-U5 (J:=J) (N:=N)]at hl;have:=(a50 hl hB.2).2.1;rw[hB.1.ag8,this];rw[aO1,aR4,aS,aL]at hi;split at hi
          .exact hi
          .cases hi
         .rw[hinf,U5,bo,aU];simp;omega
        .cases h
       .cases h
      .cases h
     .rename_i hr;split at h
      .rename_i j hj;cases hcs:b.cs[j]? with
       | none=>rw[hcs]at h;cases h
       | some y=>
         rw[hcs]at h;injection h with h;subst h;rw[<-U5 (J:=J) (N:=N)]at hj;have:=(a50 hj hB.2).2.1;exact ap4 hu (by simpa using hr) (by rw[hB.1.ag8,this];simp[A5,hcs];rfl)
      .cases h
    .cases h
   .cases h
  .cases h
 .cases h
def bj1(b:Bk)(base:Nat)(t:Tm):Xt:=
 match b.x with
 | .tab lv _=> .tab lv t
 | .arr ins=> .arr (aj2 ins base t)
 | x=>x
theorem dA9(b:Bk)(base:Nat)(t:Tm):(Bk.own { b with x:=bj1 b base t })=true->b.own=true/\(Bk.cs { b with x:=bj1 b base t })=b.cs:=fun h=>by
 refine⟨?_,rfl⟩;unfold Bk.own at h ⊢;rw[m5]at h ⊢;refine⟨h.1,?_⟩;have:=h.2;simp only[bj1]at this;cases hx:b.x<;>rw[hx]at this<;>first|exact this|cases this
def b27(P:Program)(c:Cx)(hp:List Bk)(t:TypeId)(x v:SV):Option (List Tm × List Bk):=
 match x,v with
 | .one (.c (.pta l base m i f)), .one v=>
   match aD0 l hp,P.info? t with
   | some b,some inf=>
     match as6 c b base m with
     | some (lv,tt,L)=>
       if b.rw&&(Nat.beq v.cs.length inf.size&&(Nat.ble (f+v.cs.length) lv.length&&(X1 c (.le i9 i)&&(X1 c (.lt i L)&&Nat.blt 0 v.cs.length))))then
        match ab5 c (a16 (aj4 c tt i lv 0) f v.cs) lv with
        | some (ms,r)=>some (ms,aV0 { b with x:=bj1 b base (.tb .set tt i r) } hp)
        | none=>none
       else none
     | none=>none
   | _,_=>none
 | .one (.c (.ptr l off)), .one v=>
   match aD0 l hp,P.info? t with
   | some b,some inf=>
     match b.str,b.x with
     | none, .arr ins=>
       if b.rw&&Nat.beq v.cs.length inf.size then
        match cV7 ins b.cs.length off v.cs.length with
        | some j=>if Nat.ble (j+v.cs.length) b.cs.length then some ([],aV0 { b with cs:=a16 b.cs j v.cs } hp)else none
        | none=>none
       else none
     | _,_=>none
   | _,_=>none
 | _,_=>none
theorem bb1{X:List Value}{o:Nat}{v:Value}{vs:List Value}(h:o<X.length):aA9 X o (v::vs)=aA9 (aA9 X o [v]) (o+1) vs:=by
 have hl:(X.take o++[v]).length=o+1:=by rw[az,aU];simp;omega
 have e1:aA9 X o [v]=(X.take o++[v])++X.drop (o+1):=by
  unfold aA9;simp
 rw[e1];have:aA9 ((X.take o++[v])++X.drop (o+1)) ((X.take o++[v]).length+0) vs=_:=aS2;rw[hl,Nat.add_zero]at this;rw[this];unfold aA9;simp only[List.take_zero,List.nil_append,Nat.zero_add,List.drop_drop,List.append_assoc,List.cons_append,List.length_cons];rw[show o+(vs.length+1)=o+1+vs.length from by omega]
theorem b63{J:Env}{ins:List Ins}(hok:insOk J ins):∀{vs cs:List Value} {off j:Nat},(∀ i,i<vs.length->a18 ins cs.length (off+i)=some (j+i))->j+vs.length<=cs.length->aA9 (aC2 J cs ins) off vs=aC2 J (aA9 cs j vs) ins
 | [],cs,off,j,_,_=>by
   simp only[aA9,List.length_nil,Nat.add_zero,List.nil_append,List.take_append_drop]
 | v::vs,cs,off,j,h,hl=>by
   simp only[List.length_cons]at h hl;have h0:=h 0 U;obtain⟨l1,l2,l3⟩:=a50 h0 hok;simp only[Nat.add_zero]at l1 l2 l3;have hlt:off<(aC2 J cs ins).length:=by
    rw[ar l1]at l2;exact(List.getElem?_eq_some_iff.1 l2).1
   rw[bb1 hlt,l3,bb1 l1,<-bF9 l1];refine b63 hok (fun i hi=>?_) (by rw[List.length_set];omega);have:=h (i+1) U;rw[List.length_set];rw[show off+1+i=off+(i+1)from by omega,this];congr 1;omega
theorem bp9(J:Env)(N:Bn)(cs:List C)(o:Nat)(vs:List C):A5 J N (a16 cs o vs)=aA9 (A5 J N cs) o (A5 J N vs):=by
 unfold a16 aA9;simp only[al9,aR4,aO1,U5]
theorem a52{cur l:List Value}{o:Nat}{vs:List Value}{Nj:Nat}(h:cur.take Nj=l)(hNj:Nj<=cur.length)(ho:o+vs.length<=Nj):(aA9 cur o vs).take Nj=aA9 l o vs:=by
 have hl:l.length=Nj:=by rw[<-h,aU];omega
 have e:cur=l++cur.drop Nj:=by rw[<-h,List.take_append_drop]
 have h2:aA9 (l++cur.drop Nj) o vs=aA9 l o vs++cur.drop Nj:=at3 U;rw[e,h2,List.take_append_of_le_length (by rw[az7 U];omega),bh (by rw[az7 U];omega)]
theorem cn3{J:Env}(hJ:J.R8){N:Bn}{P:Program}{S:Nat->Prop}{w0 w:World}{N0:Bn}{n0:Nat}{s:St}{a:Act}(hM:Md J S w0 N0 n0 s N a w){c:Cx}(hc:c.ok J){t:TypeId}{x v:SV}{ms:List Tm}{hp':List Bk}(h:b27 P c s.hp t x v=some (ms,hp'))(hm:Met J ms):
 ∃ w',(Instr.storeAt t (x.A1 J N) (v.A1 J N)).run P w= .ok () w'/\Md J S w0 N0 n0 { s with hp:=hp' } N a w':=by
 unfold b27 at h;split at h
 .rename_i l base m i f v;split at h
  .rename_i b inf hf hinf;have hmem:=U4 hf;have hB0:=hM.hp b hmem.1;have hcl:(v.W7 J N).cells.toList=A5 J N v.cs:=by rw[V1.aV5 hJ]
   have hcs:(v.W7 J N).cells.size=v.cs.length:=by rw[V1.aV5 hJ];simp[U5]
   split at h
   .rename_i lv tt L ht;have T:=bR3 hc hB0 ht;split at h
    .rename_i q;simp only[m5]at q;have q1:=af q.2.1;have q2:=au q.2.2.1;have q3:=B2 (L0 hc q.2.2.2.1);have q4:=aL4 (L0 hc q.2.2.2.2.1);have q5:0<v.cs.length:=au q.2.2.2.2.2;change(0:Int)<=_ at q3;rw[T.len]at q4;have hi:(u9 J i).i.toNat<(u9 J tt).c.length:=by omega
     have hk:=T.ok _ (aW5 hi);have hkl:=aA7 hk;have hmm:=T.mm;split at h
     .rename_i ms' r hr;injection h with h;injection h with h1 h2;subst h1 h2;obtain⟨r1,r2⟩:=aw6 (N:=N) hc hr hm;have hden:A5 J N (aj4 c tt i lv 0)=(u9 J tt).c.getD (u9 J i).i.toNat []:=bH7 hc hk fun j v hv=>by rwa[Nat.zero_add]
      rw[bp9,hden]at r1 r2;have hreal:=T.real U;have hmay:=hM.ar5 b hmem.1 q.1 hreal;have hnew:(u9 J (.tb .set tt i r)).c=(u9 J tt).c.set (u9 J i).i.toNat (aA9 ((u9 J tt).c.getD (u9 J i).i.toNat []) f (A5 J N v.cs)):=by
       show(u9 J tt).c.set (u9 J i).i.toNat ((u9 J r).c.headD [])=_;rw[r1];rfl
      have hnewk:∀ z∈(u9 J (.tb .set tt i r)).c,S1 lv z:=fun z hz=>by
       rw[hnew]at hz;rcases List.mem_or_eq_of_mem_set hz with hz|rfl
       .exact T.ok z hz
       .exact r2
      have hflat:=bp4 (m:=lv.length) (vs:=A5 J N v.cs) (f:=f) (fun r hr=>aA7 (T.ok r hr)) hi (by rw[U5];exact q2);rw[<-hnew]at hflat;have hin:(u9 J i).i.toNat*lv.length+f+v.cs.length<=(u9 J tt).c.length*lv.length:=by
       have:((u9 J i).i.toNat+1)*lv.length<=(u9 J tt).c.length*lv.length:=Nat.mul_le_mul_right _ hi;rw[Nat.succ_mul]at this;omega
      refine⟨w.setCells (N b.l) (base+(u9 J i).i.toNat*m+f) (A5 J N v.cs),?_,?_⟩
      .have:=aW2 (P:=P) w (N b.l) (base+(u9 J i).i.toNat*m+f) t (v.W7 J N) (fun j hj=>by
        rw[hcs]at hj;have hlt:f+j<((u9 J tt).c.getD (u9 J i).i.toNat []).length:=by omega
        have:=T.cell _ (f+j) _ hi (ar hlt);rw[<-Nat.add_assoc]at this;exact⟨by rw[this];rfl,T.froz _ U⟩) (by rw[hcs,hinf];simp;omega) ct
       rw[hcl]at this;rw[<-hmem.2];exact this
      .refine hM.bT7 (b:=b) (nb:= { b with x:=bj1 b base (.tb .set tt i r) }) hmem.1 rfl (fun _=>hreal) (fun h=>h) (aQ3 hmay _ _ hM.only) ?_ (fun x hx hne=>hM.a58 (b:=b) hmem.1 hreal (fun g hg=>aQ4 (w:=w) hg _ _ _) x hx hne) (dA9 b base _);unfold as6 at ht;unfold BkOk at hB0 ⊢;unfold bj1;split at ht
       .rename_i lv' t' hs hx;rw[hs,hx]at hB0;have hB:RowT w (N b.l) (N (b.l+1)) b.ty lv' (u9 J t').c:=hB0;split at ht
        .rename_i z;simp only[m5]at z;have z1:=af z.1;injection ht with ht;injection ht with e1 e2;injection e2 with e2 e3;subst e1 e2 e3 z1;rw[hs,hx];show RowT _ (N b.l) (N (b.l+1)) b.ty lv' (u9 J (.tb .set t' i r)).c;have hlen:=hB.len;obtain⟨cur,c1,c2,c3,c4⟩:=hB.blk U;have hcl2:(u9 J t').c.length*lv'.length<=cur.length:=by rw[c2];exact Nat.mul_le_mul_right _ hlen
         have hnl:(u9 J (.tb .set t' i r)).c.length=(u9 J t').c.length:=by rw[hnew,List.length_set]
         have hst:=aQ2 (A5 J N v.cs) (0+(u9 J i).i.toNat*m+f) c1 (by rw[U5,hmm];omega);refine RowT.cr9 hst ?_ c3 ?_ (by rw[hnl];exact hlen) hnewk
         .have:=az7 (cs:=cur) (o:=0+(u9 J i).i.toNat*m+f) (vs:=A5 J N v.cs) (by rw[U5,hmm];omega);exact this.trans c2
         .rw[hnl];have:=a52 (o:=0+(u9 J i).i.toNat*m+f) (vs:=A5 J N v.cs) c4 hcl2 (by rw[U5,hmm];omega);refine Eq.trans this ?_;rw[<-hflat,hmm,Nat.zero_add]
        .cases ht
       .rename_i ins hs hx;rw[hs,hx]at hB0;have hB:Blk w (N b.l) b.ty (aC2 J (A5 J N b.cs) ins)/\insOk J ins:=hB0;split at ht
        .rename_i x hi';split at ht
         .injection ht with ht;injection ht with e1 e2;injection e2 with e2 e3;subst e1 e2 e3;rw[hs,hx];show Blk _ (N b.l) b.ty (aC2 J (A5 J N b.cs) (aj2 ins base (.tb .set x.t i r)))/\insOk J (aj2 ins base (.tb .set x.t i r));rw[<-U5 (J:=J) (N:=N)]at hi';obtain⟨⟨i1,i2⟩,i3,i4⟩:=bS5 hi' hB.2;have hnl:(u9 J (.tb .set x.t i r)).c.length=x.n:=by rw[hnew,List.length_set,i1]
          obtain⟨j1,j2⟩:=i4 (.tb .set x.t i r) ((u9 J i).i.toNat*m+f) (A5 J N v.cs) (by rw[U5,hmm,<-i1];exact hin) (by rw[hmm];exact hflat.symm) hnl hnewk;refine⟨?_,j2⟩;have hlay:base+(u9 J i).i.toNat*m+f+v.cs.length<=(aC2 J (A5 J N b.cs) ins).length:=by
           have hlt:f+(v.cs.length - 1)<((u9 J x.t).c.getD (u9 J i).i.toNat []).length:=by omega
           have:=T.cell _ _ _ hi (ar hlt);rw[hB.1.ag8]at this;have:=(List.getElem?_eq_some_iff.1 this).1;omega
          have hst:=aQ2 (A5 J N v.cs) (base+(u9 J i).i.toNat*m+f) hB.1 (by rw[U5];exact hlay);refine hst.ad2 ?_;rw[Nat.add_assoc base];exact j1
         .cases ht
        .cases ht
       .cases ht
     .cases h
    .cases h
   .cases h
  .cases h
 .rename_i l off v;split at h
  .rename_i b inf hf hinf;have hmem:=U4 hf;have hB0:=hM.hp b hmem.1;have hcl:(v.W7 J N).cells.toList=A5 J N v.cs:=by rw[V1.aV5 hJ]
   have hcs:(v.W7 J N).cells.size=v.cs.length:=by rw[V1.aV5 hJ];simp[U5]
   unfold BkOk at hB0;split at h
   .rename_i ins hs hx;rw[hs,hx]at hB0;have hB:Blk w (N b.l) b.ty (aC2 J (A5 J N b.cs) ins)/\insOk J ins:=hB0;have hreal:b.G0 N:= .inl bI;split at h
    .rename_i q;simp only[m5]at q;have q1:=af q.2;split at h
     .rename_i j hj;split at h
      .rename_i z;have z:=au z;injection h with h;injection h with h1 h2;subst h1 h2;have hloc:=cJ0 hj;have hmay:=hM.ar5 b hmem.1 q.1 hreal;have hcell:∀ i,i<v.cs.length->∃ u,(aC2 J (A5 J N b.cs) ins)[off+i]? =some u:=fun i hi=>by
        have hl:=hloc i hi;rw[<-U5 (J:=J) (N:=N)]at hl;obtain⟨l1,l2,_⟩:=a50 hl hB.2;exact⟨_,by rw[l2];exact ar l1⟩
       refine⟨w.setCells (N b.l) off (A5 J N v.cs),?_,?_⟩
       .have:=aW2 (P:=P) w (N b.l) off t (v.W7 J N) (fun i hi=>by
         rw[hcs]at hi;obtain⟨u,hu⟩:=hcell i hi;exact⟨by rw[hB.1.ag8,hu];rfl,hB.1.Z5 _⟩) (by rw[hcs,hinf];simp;omega) ct
        rw[hcl]at this;rw[<-hmem.2];exact this
       .refine hM.bT7 (b:=b) (nb:= { b with cs:=a16 b.cs j v.cs }) hmem.1 rfl (fun _=>hreal) (fun h=>h) (aQ3 hmay _ _ hM.only) ?_ (fun x hx hne=>hM.a58 (b:=b) hmem.1 hreal (fun g hg=>aQ4 (w:=w) hg _ _ _) x hx hne);unfold BkOk;rw[hs,hx];show Blk _ (N b.l) b.ty (aC2 J (A5 J N (a16 b.cs j v.cs)) ins)/\insOk J ins;refine⟨?_,hB.2⟩;rw[bp9];have hlay:off+v.cs.length<=(aC2 J (A5 J N b.cs) ins).length\/v.cs.length=0:=by
         rcases Nat.eq_zero_or_pos v.cs.length with h0|h0
         .exact .inr h0
         .obtain⟨u,hu⟩:=hcell (v.cs.length - 1) U;have:=(List.getElem?_eq_some_iff.1 hu).1;exact .inl U
        have hov:=b63 hB.2 (vs:=A5 J N v.cs) (cs:=A5 J N b.cs) (off:=off) (j:=j) (fun i hi=>by
         rw[U5]at hi ⊢;exact hloc i hi) (by rw[U5,U5];exact z)
        rw[<-hov];rcases hlay with hlay|h0
        .exact aQ2 (A5 J N v.cs) off hB.1 (by rw[U5];exact hlay)
        .have:A5 J N v.cs=[]:=ay (by rw[U5];exact h0);rw[this];show Blk w _ _ _;unfold aA9;simp only[List.length_nil,Nat.add_zero,List.nil_append,List.take_append_drop];exact hB.1
      .cases h
     .cases h
    .cases h
   .cases h
  .cases h
 .cases h
end Sy
end Go.Proofs.YtnlcpcmdlcakgaaGreat
