/- A part of the proof that a connection answers as the document says: Iq9 IqA. -/
import Derived.Test.YtnlcpcmdlcakgaaGreatKh17
set_option maxRecDepth 100000
set_option maxHeartbeats 4000000
set_option linter.unusedVariables false
set_option linter.unusedSimpArgs false
set_option linter.unusedSectionVars false
open Go.Proofs.Tryz
namespace Go.Proofs.YtnlcpcmdlcakgaaGreat
open Go.RowKit Sy
structure QS where
 R:List (List Value)
 H:List (List Value)
 read:Int
 next:Int
 fin:Int
 over:Bool
def aQ9(s:QS)(at_:Int):Bool:=decide (at_< -1152921504606846976\/1152921504606846976<at_)||s.over
def V2(s:QS):Int:=s.next+(2048 - (s.next - s.read))
def qpA(s:QS)(at_:Int)(body:ByteArray):QA:=⟨at_,V2 s,s.fin,body⟩
def qpI(s:QS)(at_:Int):Int:=max 0 (s.next - at_)
def qpL(s:QS)(at_:Int)(body:ByteArray):RH:=ab1 (qpA s at_ body) ((body.size:Int) - qpI s at_).toNat (qpI s at_) (s.R,s.H)
def qpF(s:QS)(at_:Int)(body:ByteArray)(ff:Bool):Int:=if ff=true/\s.fin<0/\s.next<=at_+body.size/\at_+(body.size:Int)<=V2 s/\beh (qpL s at_ body).2 (at_+body.size) (V2 s)=false then at_+body.size else s.fin
def qpN(s:QS)(at_:Int)(body:ByteArray):Int × List (List Value):=aN2 (V2 s) (V2 s - s.next).toNat s.next (qpL s at_ body).2
def qpO(s:QS)(at_:Int)(body:ByteArray)(ff:Bool):Bool:=decide ((qpN s at_ body).1=qpF s at_ body ff)
def aE1(s:QS)(at_:Int)(body:ByteArray)(ff:Bool):QS:=if aQ9 s at_ then s else⟨(qpL s at_ body).1,(qpN s at_ body).2,s.read,(qpN s at_ body).1+(if qpO s at_ body ff then 1 else 0),qpF s at_ body ff,qpO s at_ body ff⟩
def as3(s:QS)(at_:Int)(body:ByteArray)(ff:Bool):Bool:=if aQ9 s at_ then false else decide (s.next<(aE1 s at_ body ff).next)
structure QRel(s:QS)(L:List (List Value))(fin:Int):Prop where
 ok:QuOk s.R s.H
 g:aB2 L
 k:Q7 L<=1153202979583557632
 r1:1<=s.read
 f0:0<=fin
 f1:fin<=1153202979583557632
 over:s.over=Z3 L s.read fin
 next:s.next=Z8 L s.read fin
 fin:s.fin=if fin=0 then -1 else fin
 has:∀ p,s.read<=p->p<s.read+2048->(X8 s.H p=true↔L1 L s.read<=p/\V6 L p≠none)
 ring:∀ p,s.read<=p->p<s.read+2048->∀ b,V6 L p=some b->aH6 s.R p=b
 keys:∀ p,V6 L p≠none->p<s.read+2048
 rk:s.read<=1153202979583557632
theorem cy7{L:List (List Value)}(hg:aB2 L){p:Int}(h:V6 L p≠none):p<Q7 L:=bY1 hg fun e=>h ((ag9 hg p).1 e)
theorem cB4{L:List (List Value)}(hg:aB2 L):∀ r∈L,V6 L (av7 r)≠none:=by
 induction L with
 | nil=>intro r hr;cases hr
 | cons r0 l ih=>
   intro r hr;unfold V6;by_cases e:av7 r0=av7 r
   .rw[if_pos e];simp
   .rw[if_neg e];rcases aa.1 hr with q|hr
    .exact absurd (by rw[q]) e
    .exact ih (fun r hr=>hg r (aj _ hr)) r hr
theorem az2{L:List (List Value)}(hg:aB2 L)(r:Int):r<=L1 L r/\V6 L (L1 L r)=none/\∀ p,r<=p->p<L1 L r->V6 L p≠none:=by
 obtain⟨h1,h2,h3⟩:=aR8 hg r;exact⟨h1,(ag9 hg _).1 h2,fun p a b q=>h3 p a b ((ag9 hg p).2 q)⟩
theorem cF6{L:List (List Value)}(hg:aB2 L){r e:Int}(h1:r<=e)(h2:V6 L e=none)(h3:∀ p,r<=p->p<e->V6 L p≠none):L1 L r=e:=
 cj6 hg h1 ((ag9 hg e).2 h2) fun p a b q=>h3 p a b ((ag9 hg p).1 q)
theorem QRel.dI9{s:QS}{L:List (List Value)}{fin:Int}(h:QRel s L fin):L1 L s.read<=s.read+2048:=by
 obtain⟨h1,h2,h3⟩:=az2 h.g s.read;rcases Int.lt_or_le (s.read+2048) (L1 L s.read)with q|q
 .have:=h.keys _ (h3 (s.read+2048) U q);omega
 .exact q
theorem QRel.inp{s:QS}{L:List (List Value)}{fin:Int}(h:QRel s L fin){at_:Int}{body:ByteArray}(a0: -9223372036854775808<=at_)(a1:at_<=9223372036854775807)(hb:body.size<=140737488355328):RpIn L s.read fin at_ body:=
 ⟨h.g,h.k,by have:=h.r1;omega,h.rk,h.f0,h.f1,a0,a1,hb⟩
theorem cE2{s:QS}{L:List (List Value)}{fin:Int}(h:QRel s L fin){at_:Int}{body:ByteArray}{ff:Bool}(a0: -9223372036854775808<=at_)(a1:at_<=9223372036854775807)(hb:body.size<=140737488355328):
 QRel (aE1 s at_ body ff) (W8 L s.read fin at_ body) (aF7 L s.read fin at_ body ff)/\as3 s at_ body ff=ah4 L s.read fin at_ body ff:=by
 have hin:=h.inp a0 a1 hb;have hbar:aQ9 s at_=aG7 L s.read fin at_:=by unfold aQ9 aG7;rw[h.over]
 cases hq:aG7 L s.read fin at_ with
 | true=>
   unfold aE1 as3 W8 aF7 ah4;rw[hbar,hq];exact⟨h,rfl⟩
 | false=>
   have hno:s.over=false:=by
    unfold aQ9 at hbar;rw[hq]at hbar;cases q:s.over with
    | false=>rfl
    | true=>rw[q,Bool.or_true]at hbar;cases hbar
   have hp2:¬(at_< -1152921504606846976\/1152921504606846976<at_):=by
    intro q';unfold aG7 at hq;rw[aD q']at hq;cases hq
   have hov:=h.over;rw[hno]at hov;have hnext:s.next=L1 L s.read:=by
    rw[h.next];unfold Z8;rw[<-hov];simp
   obtain⟨g1,g2,g3⟩:=az2 h.g s.read;have gW:=h.dI9;have hed:V2 s=s.read+2048:=by unfold V2;omega
   have r1:=h.r1;have f0:=h.f0;have hfin:=h.fin;have hM:W8 L s.read fin at_ body=aJ1 (aV7 L s.read fin at_ body) L body.size:=by unfold W8;rw[hq,if_neg bA]
   have hpa:=hin.pa hq;obtain⟨mg,mk⟩:=hin.map;have look:∀ p,V6 (W8 L s.read fin at_ body) p=if V6 L p=none/\L1 L s.read<=p/\p<s.read+2048/\(fin=0\/p<fin)/\at_<=p/\p<at_+(body.size:Int)then some (Sy.Y4 body (p - at_))else V6 L p:=fun p=>by
    rw[hM,bF0 hpa h.g h.k p (n:=body.size) (aI body.size)];show(if V6 L p=none/\L1 L s.read<=p/\p<L1 L s.read+(2048 - (L1 L s.read - s.read))/\(fin=0\/p<fin)/\at_<=p/\p<at_+(body.size:Int)then some (Sy.Y4 body (p - at_))else V6 L p)=_;rw[show L1 L s.read+(2048 - (L1 L s.read - s.read))=s.read+2048 from by omega]
   have hloop:=bX7 (A:=qpA s at_ body) (W:=s.read) (show V2 s<=s.read+2048 by omega) ((body.size:Int) - qpI s at_).toNat (qpI s at_) (s.R,s.H) h.ok (show s.read<=at_+qpI s at_ by unfold qpI;omega) (show(body.size:Int) - qpI s at_<=_ by omega) (by unfold qpI;omega);have hokL:QuOk (qpL s at_ body).1 (qpL s at_ body).2:=bQ2 (s:=(s.R,s.H)) h.ok;have cnd:∀ p,s.read<=p->p<s.read+2048->((at_+qpI s at_<=p/\p<at_+(body.size:Int)/\p<V2 s/\¬(0<=s.fin/\s.fin<=p))↔(L1 L s.read<=p/\p<s.read+2048/\(fin=0\/p<fin)/\at_<=p/\p<at_+(body.size:Int))):=fun p p0 p1=>by
    unfold qpI;rw[hnext,hed];by_cases z:fin=0
    .rw[if_pos z]at hfin;omega
    .rw[if_neg z]at hfin;omega
   have has1:∀ p,s.read<=p->p<s.read+2048->(X8 (qpL s at_ body).2 p=true↔L1 L s.read<=p/\V6 (W8 L s.read fin at_ body) p≠none):=fun p p0 p1=>by
    have e:=(hloop p p0 p1).1;have e:X8 (qpL s at_ body).2 p=(X8 s.H p||decide (at_+qpI s at_<=p/\p<at_+(body.size:Int)/\p<V2 s/\¬(0<=s.fin/\s.fin<=p))):=e;have c:=cnd p p0 p1;rw[e,bp,aB,h.has p p0 p1,c,look p];constructor
    .rintro(⟨q1,q2⟩|q)
     .exact⟨q1,by rw[if_neg fun t=>q2 t.1];exact q2⟩
     .refine⟨q.1,?_⟩;by_cases t:V6 L p=none
      .rw[if_pos ⟨t,q⟩];simp
      .rw[if_neg fun t'=>t t'.1];exact t
    .rintro⟨q1,q2⟩;by_cases t:V6 L p=none/\L1 L s.read<=p/\p<s.read+2048/\(fin=0\/p<fin)/\at_<=p/\p<at_+(body.size:Int)
     .exact .inr t.2
     .rw[if_neg t]at q2;exact .inl ⟨q1,q2⟩
   have ring1:∀ p,s.read<=p->p<s.read+2048->∀ b,V6 (W8 L s.read fin at_ body) p=some b->aH6 (qpL s at_ body).1 p=b:=fun p p0 p1 b hbb=>by
    have e:=(hloop p p0 p1).2;have e:aH6 (qpL s at_ body).1 p=if X8 s.H p=false/\(at_+qpI s at_<=p/\p<at_+(body.size:Int)/\p<V2 s/\¬(0<=s.fin/\s.fin<=p))then Sy.Y4 body (p - at_)else aH6 s.R p:=e
    have c:=cnd p p0 p1;rw[look p]at hbb;by_cases t:V6 L p=none/\L1 L s.read<=p/\p<s.read+2048/\(fin=0\/p<fin)/\at_<=p/\p<at_+(body.size:Int)
    .rw[if_pos t]at hbb;injection hbb with hbb;have hq0:X8 s.H p=false:=by
      cases q:X8 s.H p with
      | false=>rfl
      | true=>exact absurd t.1 ((h.has p p0 p1).1 q).2
     rw[e,if_pos ⟨hq0,c.2 t.2⟩,hbb]
    .rw[if_neg t]at hbb;rw[e,if_neg,h.ring p p0 p1 b hbb];rintro⟨q1,q2⟩;have q3:=c.1 q2;have:X8 s.H p=true:=(h.has p p0 p1).2 ⟨q3.1,by rw[hbb];simp⟩;rw[q1]at this;cases this
   have keys1:∀ p,V6 (W8 L s.read fin at_ body) p≠none->p<s.read+2048:=fun p hp=>by
    rw[look p]at hp;by_cases t:V6 L p=none/\L1 L s.read<=p/\p<s.read+2048/\(fin=0\/p<fin)/\at_<=p/\p<at_+(body.size:Int)
    .exact t.2.2.1
    .rw[if_neg t]at hp;exact h.keys p hp
   have more:∀ p,V6 L p≠none->V6 (W8 L s.read fin at_ body) p≠none:=fun p hp=>by
    rw[look p,if_neg fun t=>hp t.1];exact hp
   obtain⟨a1',a2',a3',a4',a5',a6',a7'⟩:=bF5 (ed:=V2 s) (W:=s.read) U (V2 s - s.next).toNat s.next (qpL s at_ body).2 hokL.hl hokL.hk U U U;have hgap:L1 (W8 L s.read fin at_ body) s.read=(qpN s at_ body).1:=by
    refine cF6 mg (show s.read<=(qpN s at_ body).1 by unfold qpN;omega) ?_ ?_
    .unfold qpN;rcases Int.lt_or_le (aN2 (V2 s) (V2 s - s.next).toNat s.next (qpL s at_ body).2).1 (V2 s)with q|q
     .have hf:=a4' q;cases t:V6 (W8 L s.read fin at_ body) (aN2 (V2 s) (V2 s - s.next).toNat s.next (qpL s at_ body).2).1 with
      | none=>rfl
      | some b=>
        have:=(has1 (aN2 (V2 s) (V2 s - s.next).toNat s.next (qpL s at_ body).2).1 U U).2 ⟨by omega,by rw[t];simp⟩;rw[hf]at this;cases this
     .cases t:V6 (W8 L s.read fin at_ body) (aN2 (V2 s) (V2 s - s.next).toNat s.next (qpL s at_ body).2).1 with
      | none=>rfl
      | some b=>
        have:=keys1 (aN2 (V2 s) (V2 s - s.next).toNat s.next (qpL s at_ body).2).1 (by rw[t];simp);omega
    .intro p p0 p1;by_cases q:p<L1 L s.read
     .exact more p (g3 p p0 q)
     .have p1:p<(aN2 (V2 s) (V2 s - s.next).toNat s.next (qpL s at_ body).2).1:=p1;exact((has1 p p0 U).1 (a3' p U p1)).2
   have hF:qpF s at_ body ff=if aF7 L s.read fin at_ body ff=0 then -1 else aF7 L s.read fin at_ body ff:=by
    have hbe:∀ P:Int,P=at_+body.size->L1 L s.read<=P->(beh (qpL s at_ body).2 P (V2 s)=false↔Q7 (W8 L s.read fin at_ body)<=P):=fun P hP hgP=>by
     constructor
     .intro q;refine bE8 U fun r hr=>?_
      rcases Int.lt_or_le (av7 r) P with t|t
      .exact t
      .have hl:=cB4 mg r hr;have hlt:=keys1 _ hl;have:=bK3.2 ⟨av7 r,t,show av7 r<V2 s by omega,(has1 _ U hlt).2 ⟨by omega,hl⟩⟩;rw[q]at this;cases this
     .intro q;cases t:beh (qpL s at_ body).2 P (V2 s)with
      | false=>rfl
      | true=>
        obtain⟨k,k1,k2,k3⟩:=bK3.1 t;have:=cy7 mg ((has1 k U U).1 k3).2;omega
    have hRF:aF7 L s.read fin at_ body ff=if aZ2 L s.read fin at_ body ff=true/\Q7 (W8 L s.read fin at_ body)<=at_+body.size then at_+body.size else fin:=by
     unfold aF7;rw[hq];rfl
    rw[hRF];unfold qpF aZ2;by_cases z:fin=0
    .rw[if_pos z]at hfin;by_cases c:ff=true/\L1 L s.read<=at_+body.size/\at_+(body.size:Int)<=s.read+2048/\Q7 (W8 L s.read fin at_ body)<=at_+body.size
     .have e1:ff=true/\s.fin<0/\s.next<=at_+body.size/\at_+(body.size:Int)<=V2 s/\beh (qpL s at_ body).2 (at_+body.size) (V2 s)=false:=⟨c.1,by omega,by omega,by omega,(hbe _ rfl c.2.1).2 c.2.2.2⟩;have e2:(ff&&decide (fin=0/\L1 L s.read<=at_+body.size/\at_+(body.size:Int)<=L1 L s.read+(2048 - (L1 L s.read - s.read))))=true/\Q7 (W8 L s.read fin at_ body)<=at_+body.size:=by
       refine⟨?_,c.2.2.2⟩;rw[c.1,aD ⟨z,c.2.1,by omega⟩];rfl
      rw[if_pos e1,if_pos e2,if_neg U]
     .have e1:¬(ff=true/\s.fin<0/\s.next<=at_+body.size/\at_+(body.size:Int)<=V2 s/\beh (qpL s at_ body).2 (at_+body.size) (V2 s)=false):=fun q=>c ⟨q.1,by omega,by omega,(hbe _ rfl U).1 q.2.2.2.2⟩
      have e2:¬((ff&&decide (fin=0/\L1 L s.read<=at_+body.size/\at_+(body.size:Int)<=L1 L s.read+(2048 - (L1 L s.read - s.read))))=true/\Q7 (W8 L s.read fin at_ body)<=at_+body.size):=fun q=>by
       rw[m5,aB]at q;exact c ⟨q.1.1,q.1.2.2.1,by omega,q.2⟩
      rw[if_neg e1,if_neg e2,if_pos z,hfin]
    .rw[if_neg z]at hfin;have e1:¬(ff=true/\s.fin<0/\s.next<=at_+body.size/\at_+(body.size:Int)<=V2 s/\beh (qpL s at_ body).2 (at_+body.size) (V2 s)=false):=fun q=>by omega
     have e2:¬((ff&&decide (fin=0/\L1 L s.read<=at_+body.size/\at_+(body.size:Int)<=L1 L s.read+(2048 - (L1 L s.read - s.read))))=true/\Q7 (W8 L s.read fin at_ body)<=at_+body.size):=fun q=>by
      rw[m5,aB]at q;exact z q.1.2.1
     rw[if_neg e1,if_neg e2,if_neg z,hfin]
   have hrng:=ao5 (ff:=ff) hin;have hO:qpO s at_ body ff=Z3 (W8 L s.read fin at_ body) s.read (aF7 L s.read fin at_ body ff):=by
    unfold qpO Z3;rw[hF,hgap];have:s.read<=(qpN s at_ body).1:=by unfold qpN;omega
    refine decide_eq_decide.2 ?_;split<;>omega
   have hPut:aE1 s at_ body ff=⟨(qpL s at_ body).1,(qpN s at_ body).2,s.read,(qpN s at_ body).1+(if qpO s at_ body ff then 1 else 0),qpF s at_ body ff,qpO s at_ body ff⟩:=by
    unfold aE1;rw[hbar,hq,if_neg bA]
   have hNj:(qpN s at_ body).1+(if qpO s at_ body ff then 1 else 0)=Z8 (W8 L s.read fin at_ body) s.read (aF7 L s.read fin at_ body ff):=by
    unfold Z8;rw[hgap,hO]
   refine⟨?_,?_⟩
   .rw[hPut];refine⟨⟨hokL.rl,hokL.rk,a5',a6'⟩,mg,mk,r1,hrng.1,hrng.2,hO,hNj,hF,?_,ring1,keys1,h.rk⟩;intro p p0 p1;have e:=a7' p p0 p1;show X8 (qpN s at_ body).2 p=true↔L1 (W8 L s.read fin at_ body) s.read<=p/\_;have e:X8 (qpN s at_ body).2 p=(X8 (qpL s at_ body).2 p&& !decide (s.next<=p/\p<(qpN s at_ body).1)):=e;have a1'':s.next<=(qpN s at_ body).1:=a1';rw[e,m5,has1 p p0 p1,hgap,aN,decide_eq_false_iff_not];constructor
    .rintro⟨⟨q1,q2⟩,q3⟩;exact⟨by omega,q2⟩
    .rintro⟨q1,q2⟩;exact⟨⟨by omega,q2⟩,by omega⟩
   .unfold as3 ah4;rw[hbar,hq,if_neg bA,if_neg bA,hPut];show decide (s.next<(qpN s at_ body).1+(if qpO s at_ body ff then 1 else 0))=_;rw[hNj,hnext]
theorem bm7{m m':Int->Int}{p:Int}:∀{k:Nat},(∀ q,p<=q->q<p+k->m q=m' q)->rdS m p k=rdS m' p k
 | 0,_=>rfl
 | k+1,h=>by
   show rdS m p k++ac2 (m (p+k))=rdS m' p k++ac2 (m' (p+k));rw[bm7 fun q h1 h2=>h q h1 U,h (p+k) U U]
theorem df5{H:List (List Value)}{p q:Int}(h:p % 2048=q % 2048):X8 H p=X8 H q:=by unfold X8;rw[h]
theorem bw9{s:QS}{L:List (List Value)}{fin:Int}(h:QRel s L fin)(most:Int):QRel { s with read:=s.read+rdN L s.read most } L fin/\rdS (aH6 s.R) s.read (rdN L s.read most).toNat=rdS (aP5 L) s.read (rdN L s.read most).toNat:=by
 obtain⟨g1,g2,g3⟩:=az2 h.g s.read;have gW:=h.dI9;have gle:=ao6 h.g s.read;have hk:=h.k;have hrk:=h.rk;have r1:=h.r1;have hn:0<=rdN L s.read most/\s.read+rdN L s.read most<=L1 L s.read:=by unfold rdN;omega
 have hgap:L1 L (s.read+rdN L s.read most)=L1 L s.read:=cF6 h.g hn.2 g2 fun p a b=>g3 p U b
 have hov:Z3 L (s.read+rdN L s.read most) fin=Z3 L s.read fin:=by unfold Z3;rw[hgap]
 refine⟨⟨h.ok,h.g,h.k,show 1<=s.read+rdN L s.read most by omega,h.f0,h.f1,?_,?_,h.fin,?_,?_,?_,show s.read+rdN L s.read most<=1153202979583557632 by omega⟩,?_⟩
 .show s.over=Z3 L (s.read+rdN L s.read most) fin;rw[hov];exact h.over
 .show s.next=Z8 L (s.read+rdN L s.read most) fin;unfold Z8;rw[hov,hgap];exact h.next
 .intro p p0 p1;have p0:s.read+rdN L s.read most<=p:=p0;have p1:p<s.read+rdN L s.read most+2048:=p1;show X8 s.H p=true↔L1 L (s.read+rdN L s.read most)<=p/\V6 L p≠none;rw[hgap];by_cases q:p<s.read+2048
  .exact h.has p U q
  .rw[df5 (q:=p - 2048) U];have e:=h.has (p - 2048) U U;constructor
   .intro t;have:=(e.1 t).1;omega
   .rintro⟨_,t⟩;have:=h.keys p t;omega
 .intro p p0 p1 b hb;have p0:s.read+rdN L s.read most<=p:=p0;have:V6 L p≠none:=by rw[hb];simp
  exact h.ring p U (h.keys p this) b hb
 .intro p hp;have:=h.keys p hp;show p<s.read+rdN L s.read most+2048;omega
 .refine bm7 fun q h1 h2=>?_
  have hl:=g3 q h1 U;unfold aP5;cases t:V6 L q with
  | none=>exact absurd t hl
  | some b=>exact h.ring q h1 U b t
def qpP:List Nat:=[1,1,1,0,1,2]
def eY3:List Bd:=[B61 j9,B61 m8,⟨.iv 2,-1,2305843009213693952⟩,I64 n7,⟨.len l7,0,140737488355328⟩]
def bf8:Sy.St:=⟨[],[quO 0 true j8 j5 j9 m8 m9 o9],⟨eY3,[]⟩,4⟩
def du6:List SV:=[.one (.c (.ptr 0 0)),iI 3, .one (.c (.str l7)),bB 1]
def qp0(P:Program)(fn:Func):Rs:=R6 P [] 10 400 4 (.code (pre qpP (y7 fn))) (L3 fn du6 bf8)
def du8:List Bd:=[⟨.iv 4,0,4611686018427387904⟩,B61 l8,B61 j9,B61 m8,⟨.iv 2,-1,2305843009213693952⟩,⟨.iv 3,-1152921504606846976,1152921504606846976⟩,⟨.len l7,0,140737488355328⟩,⟨.add n7 n8,0,2305843009213693952⟩]
def qpT(P:Program)(fn:Func):Sy.St:=a13 (I1 (qp0 P fn) 1) [0,1,2,3,8] [(9,iI 5),(10,iI 4)] [quO 0 true j6 (.cv 3) j9 m8 m9 o9] ⟨du8,[]⟩ 10
def qp1(P:Program)(fn:Func):Rs:=R6 P [] 10 400 4 (.code (Y9 (Sy.I9 qpP (y7 fn)))) (qpT P fn)
def qpR(fn:Func):Code:=Sy.I9 [1,1,1,1] (y7 fn)
def dv4:List Bd:=[B61 l8,B61 j9,B61 m8,⟨.iv 2,-1,2305843009213693952⟩,⟨.iv 3,-1152921504606846976,1152921504606846976⟩,⟨.len l7,0,140737488355328⟩]
def qpQ(P:Program)(fn:Func):Sy.St:=a13 (I1 (qp1 P fn) 6) [0,1,2,3,8] [(9,iI 5)] [] ⟨dv4,[]⟩ 10
def qp2(P:Program)(fn:Func):Rs:=R6 P [eE2] 10 400 4 (.code (pre [1,1,0,2] (qpR fn))) (qpQ P fn)
def eA7:List Bd:=[B61 o8,B61 l8,B61 j9,B61 s6,⟨.iv 6,-1,2305843009213693952⟩]
def qpU(P:Program)(fn:Func):Sy.St:=a13 (I1 (qp2 P fn) 0) [0,8] [(9,iI 5),(14,iI 8)] [quO 0 true j6 (.cv 3) j9 o8 p7 o9] ⟨eA7,[]⟩ 10
def qp3(P:Program)(fn:Func):Rs:=R6 P [] 10 400 4 (.code (Y9 (Sy.I9 [1,1,0,2] (qpR fn)))) (qpU P fn)
theorem dY3:shR 4 none (qp0 prog f125)=some (fq8 [.d (.lt n7 (.il (-1152921504606846976))),.d (.lt (.il 1152921504606846976) n7),.b o9,.l (.out 0 .ret),.l (.out 1 .normal),.l (.out 2 .ret),.l (.out 3 .ret)] [[]]):=by kernel_rfl
theorem du2:[0,2,3].map (fun k=>aD7 prog (I1 (qp0 prog f125) k) f125.results.toList)=[0,2,3].map (fun k=>some qal):=by kernel_rfl
theorem eO4:[0,2,3].map (fun k=>(I1 (qp0 prog f125) k).hp)=[0,2,3].map (fun k=>bf8.hp):=by kernel_rfl
def cw4:List As:=[.i 5 (.add m8 (.sub o7 qg2)), .i 4 qfd, .c 2 j8, .c 3 j5]
theorem cf3:(aA1 4 (qpT prog f125) (I1 (qp0 prog f125) 1)).map noU=some cw4:=by kernel_rfl
def aT:Tm:= .add n7 n8
def qB:List As:=[.i 4 (.add n8 l9)]
def qBc:List As:=[.i 4 (.add n8 l9), .c 2 (.tb .set j6 (.md aT o7) (.tb (.cons (.int .u8)) (.byte l7 n8) ak9 i9)), .c 3 (.tb .set (.cv 3) (.md aT o7) (.tb qb4 l6 ak9 i9))]
def a70:Tm:= .lt n8 qbo 
theorem dY2:shR 4 (some (qpT prog f125)) (qp1 prog f125)=some (fq8 [.b a70,.b (.lt aT l8),.b (.le i9 m9),.b (.le m9 aT),.l (.out 0 (.exit 0)),.d (hsT (.cv 3) aT),.l (.back qBc),.l (.back qB),.d (hsT (.cv 3) aT),.l (.back qBc),.l (.back qB),.l (.out 5 (.exit 0)),.l (.out 6 (.exit 0))] [[]]):=by kernel_rfl
theorem dY4:Code.loop (Y9 (Sy.I9 qpP (y7 f125)))=Sy.I9 qpP (y7 f125):=by kernel_rfl
theorem du4:(qpT prog f125).cx=⟨du8,[]⟩:=by kernel_rfl
theorem cf2:[0,5,6].map (fun k=>(aA1 4 (qpQ prog f125) (I1 (qp1 prog f125) k)).map noU)=[0,5,6].map (fun k=>some []):=by kernel_rfl
theorem du5:(qpQ prog f125).cx=⟨dv4,[]⟩:=by kernel_rfl
def bT:Tm:= .add n7 qbo 
def qE:List As:=[.i 8 m8, .i 7 m8, .i 6 m9]
theorem dY1:shR 4 (some (qpU prog f125)) (qp2 prog f125)=some (fq8 [.b (.bv 1),.b (.lt m9 i9),.b (.le m8 bT),.b (.le bT l8),.d (.ap 32 (.cv 3) bT l8),.l (.back [.i 8 m8, .i 7 m8, .i 6 bT]),.l (.back qE),.l (.back qE),.l (.back qE),.l (.back qE),.l (.back qE)] [[]]):=by kernel_rfl
theorem du3:(qpU prog f125).cx=⟨eA7,[]⟩:=by kernel_rfl
theorem cw3:Code.loop (Y9 (Sy.I9 [1,1,0,2] (qpR f125)))=Sy.I9 [1,1,0,2] (qpR f125):=by kernel_rfl
theorem dY0:shR 4 (some (qpU prog f125)) (qp3 prog f125)=some (fq8 [.b (.lt o8 l8),.b (hsT (.cv 3) o8),.l (.back [.i 7 qg5, .c 3 (.tb .set (.cv 3) (.md o8 o7) (.tb qb4 l4 ak9 i9))]),.l (.out 1 (.exit 2)),.l (.out 2 (.exit 2))] [[]]):=by kernel_rfl
def cx0(pc:List Tm):List Sm:=[.ret (.one (.c (.bool (.lt s6 qg5)))) [quO 0 true j6 (.cv 3) j9 qg5 p7 l6] (.eq o8 p7::pc), .ret (.one (.c (.bool (.lt s6 o8)))) [quO 0 true j6 (.cv 3) j9 o8 p7 o9] (.not (.eq o8 p7)::pc)]
theorem cf4:aft (.exit 2) [1,1,1,1,1,1,0,2] (y7 f125)=aft (.exit 2) [1,1,0,2] (qpR f125):=by kernel_rfl
theorem dY6:smR prog f125 4 (R6 prog [] 10 400 4 (.code (aft (.exit 2) [1,1,0,2] (qpR f125))) (I1 (qp3 prog f125) 1))=some (cx0 [.not (hsT (.cv 3) o8), .lt o8 l8]):=by kernel_rfl
theorem dY5:smR prog f125 4 (R6 prog [] 10 400 4 (.code (aft (.exit 2) [1,1,0,2] (qpR f125))) (I1 (qp3 prog f125) 2))=some (cx0 [.not (.lt o8 l8)]):=by kernel_rfl
end Go.Proofs.YtnlcpcmdlcakgaaGreat
