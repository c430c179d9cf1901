/- A part of the proof that a connection answers as the document says: IqB. -/
import Derived.Test.YtnlcpcmdlcakgaaGreatKh18
set_option maxRecDepth 100000
set_option maxHeartbeats 4000000
set_option linter.unusedVariables false
set_option linter.unusedSimpArgs false
set_option linter.unusedSectionVars false
open Go.Proofs.Tryz
namespace Go.Proofs.YtnlcpcmdlcakgaaGreat
open Go.RowKit Sy
structure QpIn(s:QS)(at_:Int)(body:ByteArray):Prop where
 ok:QuOk s.R s.H
 r0:0<=s.read
 r1:s.read<=1153202979583557632
 n0:s.read<=s.next
 n1:s.next<=s.read+2048\/s.over=true
 n2:s.next<=2305843009213693952
 f0: -1<=s.fin
 f1:s.fin<=1153202979583557632
 a0: -9223372036854775808<=at_
 a1:at_<=9223372036854775807
 b:body.size<=140737488355328
def av5(s:QS):List Value:=aU0 s.R s.H s.read s.next s.fin s.over
def a60(w:World)(g:Nat)(s:QS)(at_:Int)(body:ByteArray)(ff:Bool)(v:Value)(w':World):Prop:=
 v= .bool (as3 s at_ body ff)/\Blk w' g 132 (av5 (aE1 s at_ body ff))/\QuOk (aE1 s at_ body ff).R (aE1 s at_ body ff).H/\Only (· =g) w w'
def iqF:Nat->Dn->Dn->Dn->Dn:=fun n x y z=>if n=32 then dB (beh x.c y.i z.i)else inF n x y z
section
variable{s:QS}{at_:Int}{body:ByteArray}{ff:Bool}{w:World}{g:Nat}
theorem cO2{A:QA}{i:Int}(h:aU7 A i=false):∀(n:Nat) (s:RH),ab1 A n i s=s
 | 0,_=>rfl
 | n+1,s=>by unfold ab1;rw[h,if_neg bA]
theorem cy6{A:QA}{i:Int}(h:aU7 A i=true)(s:RH):ab1 A ((A.body.size:Int) - i).toNat i s=ab1 A ((A.body.size:Int) - (i+1)).toNat (i+1) (aa9 A s i):=by
 have g:i<(A.body.size:Int):=by
  unfold aU7 at h;rw[aB]at h;exact h.1
 rw[show((A.body.size:Int) - i).toNat=((A.body.size:Int) - (i+1)).toNat+1 from by omega];show(if aU7 A i then _ else _)=_;rw[h,if_pos rfl]
theorem cl9{ed n:Int}{H:List (List Value)}(h:¬(n<ed/\X8 H n=true)):∀ k,aN2 ed k n H=(n,H)
 | 0=>rfl
 | k+1=>by unfold aN2;rw[if_neg h]
theorem dk2{ed n:Int}{H:List (List Value)}(h:n<ed/\X8 H n=true):aN2 ed (ed - n).toNat n H=aN2 ed (ed - (n+1)).toNat (n+1) (H.set (n % 2048).toNat [.bool false]):=by
 rw[show(ed - n).toNat=(ed - (n+1)).toNat+1 from by omega];show(if n<ed/\X8 H n=true then _ else _)=_;rw[if_pos h]
structure Q1I(s:QS)(at_:Int)(body:ByteArray)(ff:Bool)(J:Env):Prop where
 g:J.R8
 f:J.f=iqF
 i0:J.i 0=s.read
 i1:J.i 1=s.next
 i2:J.i 2=s.fin
 i3:J.i 3=at_
 i5:J.i 5=V2 s
 s0:J.s 0=body
 b0:J.b 0=s.over
 b1:J.b 1=ff
 n0:qpI s at_<=J.i 4
 n1:J.i 4<=max (qpI s at_) (body.size:Int)
 c:ab1 (qpA s at_ body) ((body.size:Int) - J.i 4).toNat (J.i 4) (J.c 2,J.c 3)=qpL s at_ body
structure Q2I(s:QS)(at_:Int)(body:ByteArray)(ff:Bool)(J:Env):Prop where
 g:J.R8
 f:J.f=iqF
 i0:J.i 0=s.read
 i1:J.i 1=s.next
 i2:J.i 2=s.fin
 i3:J.i 3=at_
 i5:J.i 5=V2 s
 s0:J.s 0=body
 b0:J.b 0=s.over
 b1:J.b 1=ff
 c2:J.c 2=(qpL s at_ body).1
 c3:J.c 3=(qpL s at_ body).2
structure Q3I(s:QS)(at_:Int)(body:ByteArray)(ff:Bool)(J:Env):Prop where
 g:J.R8
 i0:J.i 0=s.read
 i5:J.i 5=V2 s
 i6:J.i 6=qpF s at_ body ff
 i8:J.i 8=s.next
 b0:J.b 0=s.over
 n0:s.next<=J.i 7
 n1:J.i 7<=V2 s
 c2:J.c 2=(qpL s at_ body).1
 c3:aN2 (V2 s) (V2 s - J.i 7).toNat (J.i 7) (J.c 3)=qpN s at_ body
theorem av4(hb:aQ9 s at_=false):s.over=false/\¬(at_< -1152921504606846976\/1152921504606846976<at_):=by
 unfold aQ9 at hb;rw[Bool.or_eq_false_iff,decide_eq_false_iff_not]at hb;exact⟨hb.2,hb.1⟩
theorem Q1I.cx(h:QpIn s at_ body)(hb:aQ9 s at_=false){J:Env}(I:Q1I s at_ body ff J):(qpT prog f125).cx.ok J:=by
 rw[du4];obtain⟨_,hp⟩:=av4 hb;obtain⟨_,r0,r1,m0,_,m2,f0,f1,_,_,hb'⟩:=h;obtain⟨_,_,e0,e1,e2,e3,e5,es,_,_,n0,n1,_⟩:=I;have hed:V2 s=s.read+2048:=by unfold V2;omega
 unfold qpI at n0 n1;refine cxP ⟨?_,?_,?_,?_,?_,?_,?_,?_,trivial⟩ trivial
 .show 0<=J.i 4/\J.i 4<=4611686018427387904;omega
 .show 0<=J.i 5/\J.i 5<=2305843009213693952;omega
 .show 0<=J.i 0/\J.i 0<=2305843009213693952;omega
 .show 0<=J.i 1/\J.i 1<=2305843009213693952;omega
 .show -1<=J.i 2/\J.i 2<=2305843009213693952;omega
 .show -1152921504606846976<=J.i 3/\J.i 3<=1152921504606846976;omega
 .show(0:Int)<=((J.s 0).size:Int)/\((J.s 0).size:Int)<=140737488355328;rw[es];omega
 .show 0<=J.i 3+J.i 4/\J.i 3+J.i 4<=2305843009213693952;omega
theorem Q2I.cx(h:QpIn s at_ body)(hb:aQ9 s at_=false){J:Env}(I:Q2I s at_ body ff J):(qpQ prog f125).cx.ok J:=by
 rw[du5];obtain⟨_,hp⟩:=av4 hb;obtain⟨_,r0,r1,m0,_,m2,f0,f1,_,_,hb'⟩:=h;obtain⟨_,_,e0,e1,e2,e3,e5,es,_,_,_,_⟩:=I;have hed:V2 s=s.read+2048:=by unfold V2;omega
 refine cxP ⟨?_,?_,?_,?_,?_,?_,trivial⟩ trivial
 .show 0<=J.i 5/\J.i 5<=2305843009213693952;omega
 .show 0<=J.i 0/\J.i 0<=2305843009213693952;omega
 .show 0<=J.i 1/\J.i 1<=2305843009213693952;omega
 .show -1<=J.i 2/\J.i 2<=2305843009213693952;omega
 .show -1152921504606846976<=J.i 3/\J.i 3<=1152921504606846976;omega
 .show(0:Int)<=((J.s 0).size:Int)/\((J.s 0).size:Int)<=140737488355328;rw[es];omega
theorem cE0(h:QpIn s at_ body): -1<=qpF s at_ body ff/\qpF s at_ body ff<=2305843009213693952:=by
 obtain⟨_,r0,r1,m0,_,m2,f0,f1,_,_,hb'⟩:=h;have hed:V2 s=s.read+2048:=by unfold V2;omega
 unfold qpF;split<;>omega
theorem Q3I.cx(h:QpIn s at_ body){J:Env}(I:Q3I s at_ body ff J):(qpU prog f125).cx.ok J:=by
 rw[du3];have hF:=cE0 (ff:=ff) h;obtain⟨_,r0,r1,m0,_,m2,f0,f1,_,_,hb'⟩:=h;obtain⟨_,e0,e5,e6,e8,_,n0,n1,_,_⟩:=I;have hed:V2 s=s.read+2048:=by unfold V2;omega
 refine cxP ⟨?_,?_,?_,?_,?_,trivial⟩ trivial
 .show 0<=J.i 7/\J.i 7<=2305843009213693952;omega
 .show 0<=J.i 5/\J.i 5<=2305843009213693952;omega
 .show 0<=J.i 0/\J.i 0<=2305843009213693952;omega
 .show 0<=J.i 8/\J.i 8<=2305843009213693952;omega
 .show -1<=J.i 6/\J.i 6<=2305843009213693952;omega
theorem bX0(h:QpIn s at_ body)(hO:Blk w g 132 (av5 s)):
 Calls prog 125 #[.pointer (some ⟨g,0,none⟩), .int .i64 at_, .string body, .bool ff] w (F7 (a60 w g s at_ body ff)):=by
 let J0:Env:=⟨fun n=>if n=0 then s.read else if n=1 then s.next else if n=2 then s.fin else at_,fun n=>if n=0 then s.over else ff,fun _=>body,iqF,fun _=> .bool false,fun _=> .bool false,fun n=>if n=0 then s.R else s.H,fun _=>Thing.a20⟩
 have hcx:bf8.cx.ok J0:=by
  obtain⟨_,r0,r1,m0,_,m2,f0,f1,a0,a1,hb'⟩:=h;refine cxP ⟨?_,?_,?_,?_,?_,trivial⟩ trivial
  .show 0<=s.read/\s.read<=2305843009213693952;omega
  .show 0<=s.next/\s.next<=2305843009213693952;omega
  .show -1<=s.fin/\s.fin<=2305843009213693952;omega
  .show -9223372036854775808<=at_/\at_<=9223372036854775807;omega
  .show(0:Int)<=(body.size:Int)/\(body.size:Int)<=140737488355328;omega
 have hM0:Md J0 (· =g) w (fun _=>g) 4 bf8 (fun _=>g) ⟨#[],[]⟩ w:=Sy.Md.ax8 ⟨aX0.2 ⟨hO,h.ok⟩,trivial⟩ ⟨trivial,trivial⟩ ⟨fun _ _ q hq=>Q9 rfl hq,trivial⟩ hcx rfl
 have r0:∀ k:Nat,k∈[0,2,3]->aD7 prog (I1 (qp0 prog f125) k) f125.results.toList=some qal:=fun k hk=>List.map_inj_left.1 du2 k hk
 have hp0:∀ k:Nat,k∈[0,2,3]->(I1 (qp0 prog f125) k).hp=bf8.hp:=fun k hk=>List.map_inj_left.1 eO4 k hk
 have mQ:∀ k:Nat,k∈[0,5,6]->(aA1 4 (qpQ prog f125) (I1 (qp1 prog f125) k)).map noU=some []:=fun k hk=>List.map_inj_left.1 cf2 k hk
 have bar:aQ9 s at_=true->∀ k:Nat,k∈[0,2,3]->∀ N a w1,Md J0 (· =g) w (fun _=>g) 4 (I1 (qp0 prog f125) k) N a w1->(bodyPost prog f125 (F7 (a60 w g s at_ body ff))) .ret a w1:=by
  intro hb k hk N a w1 hM;have hP:aE1 s at_ body ff=s:=by unfold aE1;rw[hb,if_pos rfl]
  have:=hM.hp (quO 0 true j8 j5 j9 m8 m9 o9) (by rw[hp0 k hk];exact ae ..);obtain⟨h1,h2⟩:=aX0.1 this;rw[hM.old 0 bA]at h1;refine aL9 (B:=⟨J0,(· =g),w,fun _=>g,4⟩) hM (r0 k hk) ⟨?_,?_,?_,hM.only⟩
  .show Value.bool false=_;unfold as3;rw[hb,if_pos rfl]
  .rw[hP];exact h1
  .rw[hP];exact h2
 have fin':aQ9 s at_=false->∀ J,Q3I s at_ body ff J->(¬(J.i 7<V2 s/\X8 (J.c 3) (J.i 7)=true))->∀ pc,aC6 (Sm.bT6 ⟨J,(· =g),w,fun _=>g,4⟩ (a60 w g s at_ body ff)) (cx0 pc):=by
  intro hb J I hstop pc;obtain⟨hov,_⟩:=av4 hb;have hNj:=I.c3;rw[cl9 hstop]at hNj;have e6:=I.i6;have e8:=I.i8;have hP:aE1 s at_ body ff=⟨(qpL s at_ body).1,(qpN s at_ body).2,s.read,(qpN s at_ body).1+(if qpO s at_ body ff then 1 else 0),qpF s at_ body ff,qpO s at_ body ff⟩:=by unfold aE1;rw[hb,if_neg bA]
  refine⟨?_,?_,trivial⟩
  .intro hpc N w2 hH;have h7:J.i 7=qpF s at_ body ff:=by
    have:=hpc.1;rw[A9]at this;exact(show J.i 7=J.i 6 from this).trans e6
   have hO':qpO s at_ body ff=true:=by unfold qpO;rw[<-hNj];exact aD h7
   obtain⟨h1,h2⟩:=aX0.1 (hH.hp _ (ae ..));rw[hH.old 0 (show 0<4 by decide)]at h1;rw[hO',if_pos rfl,<-hNj]at hP;refine⟨?_,?_,?_,hH.only⟩
   .show Value.bool (decide (J.i 8<J.i 7+1))=_;unfold as3;rw[hb,if_neg bA,hP,e8]
   .rw[hP];have h1:Blk w2 g _ (aU0 (J.c 2) (J.c 3) (J.i 0) (J.i 7+1) (J.i 6) true):=h1;rw[I.c2,I.i0,e6]at h1;exact h1
   .rw[hP];have h2:QuOk (J.c 2) (J.c 3):=h2;rw[I.c2]at h2;exact h2
  .intro hpc N w2 hH;have h7:¬J.i 7=qpF s at_ body ff:=by
    have:=hpc.1;rw[y9,A9]at this;rw[<-e6];exact this
   have hO':qpO s at_ body ff=false:=by unfold qpO;rw[<-hNj];exact aH h7
   obtain⟨h1,h2⟩:=aX0.1 (hH.hp _ (ae ..));rw[hH.old 0 (show 0<4 by decide)]at h1;rw[hO',if_neg bA,<-hNj,Int.add_zero]at hP;refine⟨?_,?_,?_,hH.only⟩
   .show Value.bool (decide (J.i 8<J.i 7))=_;unfold as3;rw[hb,if_neg bA,hP,e8]
   .rw[hP];have h1:Blk w2 g _ (aU0 (J.c 2) (J.c 3) (J.i 0) (J.i 7) (J.i 6) (J.b 0)):=h1;rw[I.c2,I.i0,e6,I.b0,hov]at h1;exact h1
   .rw[hP];have h2:QuOk (J.c 2) (J.c 3):=h2;rw[I.c2]at h2;exact h2
 have second:aQ9 s at_=false->∀ J,Q2I s at_ body ff J->∀ N a w1,Md J (· =g) w (fun _=>g) 4 (qpQ prog f125) N a w1->(qpR f125).wp prog (Y7 prog [1,1,1] (y7 f125) (bodyPost prog f125 (F7 (a60 w g s at_ body ff)))) a w1:=by
  intro hb J I N a w1 hM;obtain⟨hov,hp⟩:=av4 hb;have hed:V2 s=s.read+2048:=by unfold V2;omega
  have hn1:s.next<=V2 s:=by
   rcases h.n1 with q|q
   .omega
   .rw[hov]at q;cases q
  have hB:(u9 J bT).i=at_+(body.size:Int):=by show J.i 3+((J.s 0).size:Int)=_;rw[I.i3,I.s0]
  have hbe:((u9 J (.ap 32 (.cv 3) bT l8)).b=true)=(beh (qpL s at_ body).2 (at_+body.size) (V2 s)=true):=by
   show((J.f 32 (u9 J (.cv 3)) (u9 J bT) (u9 J l8)).b=true)=_;rw[I.f];show(beh (J.c 3) (u9 J bT).i (J.i 5)=true)=_;rw[hB,I.c3,I.i5]
  have e1:=I.i1;have e2:=I.i2;have e5:=I.i5;have b1:=I.b1;refine aa2 (p:=[1,1,0,2]) (r:=qp2 prog f125) (T:=qpU prog f125) rfl dY1 (Q3I s at_ body ff) (fun J I=>I.cx h) I.g (fun q hq=>by rw[ah.1 hq];exact di3 fun x y z=>by rw[I.f];rfl) ?_ ?_ hM
  .have mk:∀(v:Tm) N u,(u9 J v).i=qpF s at_ body ff->Q3I s at_ body ff { J.L5 N [.i 8 m8, .i 7 m8, .i 6 v]with u:=u }:=fun v N u hv=>by
    refine⟨I.g,I.i0,I.i5,hv,I.i1,I.b0,?_,?_,I.c2,?_⟩
    .show s.next<=J.i 1;omega
    .show J.i 1<=_;omega
    .show aN2 (V2 s) (V2 s - J.i 1).toNat (J.i 1) (J.c 3)=_;rw[e1,I.c3];rfl
   refine⟨?_,?_,?_,?_,?_,?_,trivial⟩;all_goals
    intro hpc N u;replace hpc:A6 J _:=hpc;simp only[A6,A7,E5,A9,y9,G1,hbe,F0,A0,hB,b1,e1,e2,e5,and_true]at hpc
   .refine mk bT N u ?_;rw[hB];unfold qpF;rw[if_pos ⟨hpc.2.2.2.2,hpc.2.2.2.1,hpc.2.2.1,hpc.2.1,by simpa using hpc.1⟩]
   .refine mk m9 N u ?_;unfold qpF;rw[if_neg fun q=>by rw[hpc.1]at q;exact absurd q.2.2.2.2 bA];exact e2
   .refine mk m9 N u ?_;unfold qpF;rw[if_neg fun q=>hpc.1 q.2.2.2.1];exact e2
   .refine mk m9 N u ?_;unfold qpF;rw[if_neg fun q=>hpc.1 q.2.2.1];exact e2
   .refine mk m9 N u ?_;unfold qpF;rw[if_neg fun q=>hpc.1 q.2.1];exact e2
   .refine mk m9 N u ?_;unfold qpF;rw[if_neg fun q=>hpc q.1];exact e2
  .intro J2 I2 N2 a2 w2 M2;rw[<-cw3];refine aK0 (w0:=w) (r:=qp3 prog f125) rfl dY0 (Q3I s at_ body ff) (fun J=>(V2 s - J.i 7).toNat) (fun J I=>I.g) (fun J I q hq=>by cases hq) (fun J I=>I.cx h) ?_ I2 M2;intro J I;have e5:=I.i5;have n0:=I.n0;have n1:=I.n1;refine⟨?_,?_,?_,trivial⟩;all_goals
    intro hpc;replace hpc:A6 J _:=hpc;simp only[A6,A7,y9,bz3,F0,dG9,e5,and_true]at hpc
   .intro N u;refine⟨⟨I.g,I.i0,I.i5,I.i6,I.i8,I.b0,?_,?_,I.c2,?_⟩,?_⟩
    .show s.next<=J.i 7+1;omega
    .show J.i 7+1<=_;omega
    .rw[<-I.c3,dk2 ⟨hpc.2,hpc.1⟩];rfl
    .show(V2 s - (J.i 7+1)).toNat<(V2 s - J.i 7).toNat;omega
   .intro N a w' hM;have e:=dY6;rw[<-cf4]at e;exact aY4 (B:=⟨J,(· =g),w,fun _=>g,4⟩) I.g (fun q hq=>by cases hq) rfl (.exit 2) (p:=[1,1,1,1,1,1,0,2]) e (fin' hb J I (fun q=>hpc.1 q.2) _) hM
   .intro N a w' hM;have e:=dY5;rw[<-cf4]at e;exact aY4 (B:=⟨J,(· =g),w,fun _=>g,4⟩) I.g (fun q hq=>by cases hq) rfl (.exit 2) (p:=[1,1,1,1,1,1,0,2]) e (fin' hb J I (fun q=>hpc q.1) _) hM
 have main:aQ9 s at_=false->∀ N a w1,Md J0 (· =g) w (fun _=>g) 4 (I1 (qp0 prog f125) 1) N a w1->(Sy.I9 qpP (y7 f125)).wp prog (Y7 prog qpP (y7 f125) (bodyPost prog f125 (F7 (a60 w g s at_ body ff)))) a w1:=by
  intro hb N a w1 hM1;rw[<-dY4];have hI1:∀ u,Q1I s at_ body ff { J0.L5 N cw4 with u:=u }:=fun u=>by
   have e4:({ J0.L5 N cw4 with u:=u }:Env).i 4=qpI s at_:=by
    show(u9 J0 qfd).i=_;rw[bu5];rfl
   refine⟨fun i=>rfl,rfl,rfl,rfl,rfl,rfl,rfl,rfl,rfl,rfl,by rw[e4];exact aF _,by rw[e4];omega,?_⟩;rw[e4];rfl
  obtain⟨u,N',hM2⟩:=Sy.Md.aL7 hM1 cf3 fun u=>(hI1 u).cx h hb
  refine aK0 (w0:=w) (r:=qp1 prog f125) rfl dY2 (Q1I s at_ body ff) (fun J=>((body.size:Int) - J.i 4).toNat) (fun J I=>I.g) (fun J I q hq=>by cases hq) (fun J I=>I.cx h hb) ?_ (hI1 u) hM2;intro J I;have e1:=I.i1;have e2:=I.i2;have e3:=I.i3;have e5:=I.i5;have es:=I.s0;have n0:=I.n0;have n1:=I.n1;have hA:(u9 J aT).i=at_+J.i 4:=by show J.i 3+J.i 4=_;rw[e3]
  have hl:((u9 J a70).b=true)=(J.i 4<(body.size:Int)):=by
   rw[a70,A7];show(J.i 4<((J.s 0).size:Int))=_;rw[es]
  have gd:∀ x:Bool,(x=true↔(J.i 4<(body.size:Int)/\at_+J.i 4<V2 s/\¬(0<=s.fin/\s.fin<=at_+J.i 4)))->aU7 (qpA s at_ body) (J.i 4)=x:=fun x hx=>by
   have:aU7 (qpA s at_ body) (J.i 4)=decide (J.i 4<(body.size:Int)/\at_+J.i 4<V2 s/\¬(0<=s.fin/\s.fin<=at_+J.i 4)):=rfl;rw[this];cases x with
   | true=>exact aD (hx.1 rfl)
   | false=>exact aH fun q=>by cases hx.2 q
  have out:aU7 (qpA s at_ body) (J.i 4)=false->∀ k:Nat,k∈[0,5,6]->∀ N a w',Md J (· =g) w (fun _=>g) 4 (I1 (qp1 prog f125) k) N a w'->(qpR f125).wp prog (Y7 prog [1,1,1] (y7 f125) (bodyPost prog f125 (F7 (a60 w g s at_ body ff)))) a w':=by
   intro hg k hk N a w' hM;have hc:=I.c;rw[cO2 hg]at hc;have hI2:∀ u,Q2I s at_ body ff { J.L5 N []with u:=u }:=fun u=>⟨I.g,I.f,I.i0,I.i1,I.i2,I.i3,I.i5,I.s0,I.b0,I.b1,(congrArg Prod.fst hc),(congrArg Prod.snd hc)⟩
   obtain⟨u,N',hM2⟩:=Sy.Md.aL7 hM (mQ k hk) fun u=>(hI2 u).cx h hb
   exact second hb _ (hI2 u) _ _ _ hM2
  have nx:aU7 (qpA s at_ body) (J.i 4)=true->∀{l:List As} {N:Bn} {u},(∀ j,({ J.L5 N l with u:=u }:Env).i j=if j=4 then J.i 4+1 else J.i j)->({ J.L5 N l with u:=u }:Env).s=J.s->({ J.L5 N l with u:=u }:Env).b=J.b->({ J.L5 N l with u:=u }:Env).f=J.f->(({ J.L5 N l with u:=u }:Env).c 2,({ J.L5 N l with u:=u }:Env).c 3)=aa9 (qpA s at_ body) (J.c 2,J.c 3) (J.i 4)->
   Q1I s at_ body ff { J.L5 N l with u:=u }/\((body.size:Int) - ({ J.L5 N l with u:=u }:Env).i 4).toNat<((body.size:Int) - J.i 4).toNat:=by
   intro hg l N u hj hs hb' hf hc;have hlt:J.i 4<(body.size:Int):=by
    unfold aU7 at hg;rw[aB]at hg;exact hg.1
   have h4:=hj 4;rw[if_pos rfl]at h4;refine⟨⟨I.g,hf.trans I.f,(hj 0).trans I.i0,(hj 1).trans I.i1,(hj 2).trans I.i2,(hj 3).trans I.i3,(hj 5).trans I.i5,by rw[hs];exact es,by rw[hb'];exact I.b0,by rw[hb'];exact I.b1,by omega,by omega,?_⟩,by omega⟩;rw[hc,h4,<-I.c];exact(cy6 (A:=qpA s at_ body) hg (J.c 2,J.c 3)).symm
  have st1:∀{N:Bn} {u},X8 (J.c 3) (at_+J.i 4)=false->(({ J.L5 N qBc with u:=u }:Env).c 2,({ J.L5 N qBc with u:=u }:Env).c 3)=aa9 (qpA s at_ body) (J.c 2,J.c 3) (J.i 4):=by
   intro N u q;show((J.c 2).set ((J.i 3+J.i 4) % 2048).toNat [.int .u8 (Sy.Y4 (J.s 0) (J.i 4))],(J.c 3).set ((J.i 3+J.i 4) % 2048).toNat [.bool true])=(if X8 (J.c 3) (at_+J.i 4)then _ else _);rw[q,e3,es];rfl
  have st0:∀{N:Bn} {u},X8 (J.c 3) (at_+J.i 4)=true->(({ J.L5 N qB with u:=u }:Env).c 2,({ J.L5 N qB with u:=u }:Env).c 3)=aa9 (qpA s at_ body) (J.c 2,J.c 3) (J.i 4):=by
   intro N u q;show(J.c 2,J.c 3)=(if X8 (J.c 3) (at_+J.i 4)then _ else _);rw[q];rfl
  have j4:∀{N:Bn} {u} (j:Nat),({ J.L5 N qB with u:=u }:Env).i j=if j=4 then J.i 4+1 else J.i j:=fun{N u} j=>by
   match j with
   | 0=>rfl
   | 1=>rfl
   | 2=>rfl
   | 3=>rfl
   | 4=>rfl
   | j+5=>rw[if_neg U];rfl
  have j4c:∀{N:Bn} {u} (j:Nat),({ J.L5 N qBc with u:=u }:Env).i j=if j=4 then J.i 4+1 else J.i j:=fun{N u} j=>by
   match j with
   | 0=>rfl
   | 1=>rfl
   | 2=>rfl
   | 3=>rfl
   | 4=>rfl
   | j+5=>rw[if_neg U];rfl
  refine⟨?_,?_,?_,?_,?_,?_,?_,trivial⟩;all_goals
   intro hpc;replace hpc:A6 J _:=hpc;simp only[A6,A7,E5,y9,bz3,hA,hl,F0,A0,dG9,e2,e5,and_true]at hpc
  .intro N a w' hM;exact out (gd false ⟨fun q=>bK,fun q=>absurd ⟨hpc.2.1,hpc.1⟩ q.2.2⟩) 0 bA N a w' hM
  .intro N u;exact nx (gd true ⟨fun _=>⟨hpc.2.2.2.2,hpc.2.2.2.1,fun q=>hpc.2.1 q.2⟩,fun _=>rfl⟩) j4c rfl rfl rfl (st1 (by simpa using hpc.1))
  .intro N u;exact nx (gd true ⟨fun _=>⟨hpc.2.2.2.2,hpc.2.2.2.1,fun q=>hpc.2.1 q.2⟩,fun _=>rfl⟩) j4 rfl rfl rfl (st0 hpc.1)
  .intro N u;exact nx (gd true ⟨fun _=>⟨hpc.2.2.2,hpc.2.2.1,fun q=>hpc.2.1 q.1⟩,fun _=>rfl⟩) j4c rfl rfl rfl (st1 (by simpa using hpc.1))
  .intro N u;exact nx (gd true ⟨fun _=>⟨hpc.2.2.2,hpc.2.2.1,fun q=>hpc.2.1 q.1⟩,fun _=>rfl⟩) j4 rfl rfl rfl (st0 hpc.1)
  .intro N a w' hM;exact out (gd false ⟨fun q=>bK,fun q=>absurd q.2.1 hpc.1⟩) 5 bA N a w' hM
  .intro N a w' hM;exact out (gd false ⟨fun q=>bK,fun q=>absurd q.1 hpc⟩) 6 bA N a w' hM
 refine aH2 (B:=⟨J0,(· =g),w,fun _=>g,4⟩) (sp:=[]) (p:=qpP) (xs:=du6) (s:=bf8) (r:=qp0 prog f125) (fun i=>rfl) (fun q hq=>by cases hq) rfl func125 rfl rfl dY3 hM0 ?_ rfl
 refine⟨?_,?_,?_,?_,trivial⟩;all_goals
  intro hpc N a w1 hM;replace hpc:A6 J0 _:=hpc;simp only[A6,A7,y9,G1,F0,A0,and_true]at hpc
 .refine bar ?_ 0 bA N a w1 hM;unfold aQ9;rw[show s.over=true from hpc.1,Bool.or_true]
 .refine main ?_ N a w1 hM;unfold aQ9;have ho:s.over=false:=by
   cases q:s.over with
   | false=>rfl
   | true=>exact absurd q hpc.1
  rw[ho,Bool.or_false,decide_eq_false_iff_not];rintro(q|q)
  .exact hpc.2.2 q
  .exact hpc.2.1 q
 .refine bar ?_ 2 bA N a w1 hM;unfold aQ9;rw[aD (show at_< -1152921504606846976\/1152921504606846976<at_ from .inr hpc.1)];rfl
 .refine bar ?_ 3 bA N a w1 hM;unfold aQ9;rw[aD (show at_< -1152921504606846976\/1152921504606846976<at_ from .inl hpc)];rfl
end
end Go.Proofs.YtnlcpcmdlcakgaaGreat
