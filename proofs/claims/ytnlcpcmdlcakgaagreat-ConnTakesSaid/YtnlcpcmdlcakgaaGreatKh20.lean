/- A part of the proof that a connection answers as the document says: IqC. -/
import Derived.Laws.MakeOwn
import Derived.Test.YtnlcpcmdlcakgaaGreatKh19
set_option maxRecDepth 100000
set_option maxHeartbeats 4000000
set_option linter.unusedVariables false
set_option linter.unusedSimpArgs false
set_option linter.unusedSectionVars false
open Go.Proofs.Tryz
namespace Go.Proofs.YtnlcpcmdlcakgaaGreat
open Go.RowKit Sy
def eY4:List Bd:=[B61 j9,B61 m8,I64 m9]
def cM5:Sy.St:=⟨[],[quO 0 true j8 j5 j9 m8 n7 o9],⟨eY4,[]⟩,4⟩
def qd0(P:Program)(fn:Func):Rs:=R6 P [] 10 400 4 (.code (pre [1,1,0] (y7 fn))) (L3 fn [.one (.c (.ptr 0 0)),iI 2] cM5)
def dv3:List Bd:=[⟨.iv 4,0,4096⟩,B61 j9,B61 m8]
def qdT(P:Program)(fn:Func):Sy.St:=a13 (I1 (qd0 P fn) 0) [0] [(5,iI 4)] [] ⟨dv3,[]⟩ 10
def slZ:SV:= .one (.c (.slc 40 0 i9 i9))
def slY:SV:= .one (.c (.slt 40 1 i9 n8 i9))
def qdZ(P:Program)(fn:Func):Sy.St:=((qdT P fn).new 40 5 []).put (some 6) slZ
def eY6:List Bd:=[⟨.iv 4,1,4096⟩,⟨.iv 5,0,4096⟩,⟨L7 j6,0,4096⟩,B61 j9,B61 m8]
def a71:Cx:=⟨eY6,[.le n8 (L7 j6), .le (L7 j6) n8]⟩
def qdY(P:Program)(fn:Func):Sy.St:= { ((qdT P fn).ae7 40 5 none [.int .u8] j6).put (some 6) slY with cx:=a71 }
def qd1(P:Program)(fn:Func):Rs:=R6 P [] 10 400 4 (.code (pre [0,1,2] (Sy.I9 [1,1,1] (y7 fn)))) (qdY P fn)
def qdL(P:Program)(fn:Func):Sy.St:=a13 (I1 (qd1 P fn) 0) [0,5,6,16] [(17,iI 5)] [] a71 50
def qd2(P:Program)(fn:Func):Rs:=R6 P [] 10 400 4 (.code (Y9 (Sy.I9 [0,1,2] (Sy.I9 [1,1,1] (y7 fn))))) (qdL P fn)
def qd3(P:Program)(fn:Func):Rs:=R6 P [] 10 400 4 (.code (pre [1] (Sy.I9 [1,1,1,1] (y7 fn)))) (I1 (qd2 P fn) 2)
def cw9:Bk:=⟨40,5,[],true,none, .tab [.int .u8] j6⟩
def cw8:Cx:=⟨[⟨.iv 4,1,4096⟩,⟨.len n9,0,4096⟩,B61 j9,B61 m8],[.le n8 qa9, .le qa9 n8]⟩
def qdW(P:Program)(fn:Func):Sy.St:= { Sy.dR4 (I1 (qd3 P fn) 0) cw9 n9 with cx:=cw8 }
def qdE(e:Tm):Tm:= .ite (.lt (.sub e j9) av3) (.sub e j9) av3
theorem dZ6:shR 4 none (qd0 prog f74)=some (fq8 [.b o9,.l (.out 0 .normal),.l (.out 1 .normal)] [[]]):=by kernel_rfl
theorem cf6:(aA1 4 (qdT prog f74) (I1 (qd0 prog f74) 0)).map noU=some [.i 4 (qdE qen)]:=by kernel_rfl
theorem cf5:(aA1 4 (qdT prog f74) (I1 (qd0 prog f74) 1)).map noU=some [.i 4 (qdE m8)]:=by kernel_rfl
theorem cw6:((prog.info? 5).map fun i=>(i.zero,i.size,i.bytes))=some (some (.int .u8 0),1,1):=by kernel_rfl
theorem dZ8:∃ i,prog.info? 5=some i/\i.zero=some (.int .u8 0)/\i.size=1/\i.bytes=1:=by
 obtain⟨i,hi,e⟩:=aw.1 cw6;injection e with e1 e;injection e with e2 e3;exact⟨i,hi,e1,e2,e3⟩
theorem dv0:(qdT prog f74).cx=⟨dv3,[]⟩:=by kernel_rfl
structure MkA(c:Code)(t n d1 d2 d3:Nat):Prop where
 c:∃ o1 o2 o3:Oper,c= .region (bj4 c) #[o1,o2,o3] false/\(o1.guard=none/\o1.op= .move (.tmp n)/\o1.dst=some d1)/\(o2.guard=none/\o2.op= .makeSlice t (.tmp d1) (.tmp d1)/\o2.dst=some d2)/\(o3.guard=none/\o3.op= .assign (.tmp d2)/\o3.dst=some d3)
theorem eO5:MkA (Sy.I9 [1,1,0] (y7 f74)) 108 5 13 14 6:=⟨Sy.aP1 (Sy.I9 [1,1,0] (y7 f74)) 0,Sy.aP1 (Sy.I9 [1,1,0] (y7 f74)) 1,Sy.aP1 (Sy.I9 [1,1,0] (y7 f74)) 2,by kernel_rfl,⟨by kernel_rfl,by kernel_rfl,by kernel_rfl⟩,⟨by kernel_rfl,by kernel_rfl,by kernel_rfl⟩,⟨by kernel_rfl,by kernel_rfl,by kernel_rfl⟩⟩
theorem dv2:((qdT prog f74).tm[5]?,(qdT prog f74).tm[13]?,an3 13 ((qdT prog f74).tm.set 13 aE3),(qdT prog f74).tm[14]?,an3 14 ((qdT prog f74).tm.set 14 aE3))=(some (iI 4),some (.any 13),true,some (.any 14),true):=by kernel_rfl
theorem dZ9:((qdT prog f74).T8 40,(qdT prog f74).T8 41)=(true,true):=by kernel_rfl
theorem cw7:(((qdT prog f74).new 40 5 []).tm[14]?,an3 14 (((qdT prog f74).new 40 5 []).tm.set 14 aE3),((qdT prog f74).ae7 40 5 none [.int .u8] j6).tm[14]?,an3 14 (((qdT prog f74).ae7 40 5 none [.int .u8] j6).tm.set 14 aE3))=(some (.any 14),true,some (.any 14),true):=by kernel_rfl
theorem da0:smR prog f74 4 (R6 prog [] 10 400 4 (.code (Sy.I9 [1,1,1] (y7 f74))) (qdZ prog f74))=some [.ret (.one (.c (.str p9))) [quO 0 true j8 j5 qfq m8 n7 o9] []]:=by kernel_rfl
theorem dZ5:shR 4 (some (qdL prog f74)) (qd1 prog f74)=some [.back [.i 5 i9] a71.pc]:=by kernel_rfl
theorem cf7:(qdL prog f74).cx=a71:=by kernel_rfl
def qdX:Tm:= .tb .set j6 l8 (.tb (.cons (.int .u8)) (.tb (.get (.int .u8) 0) j8 (.md (.add j9 l8) o7) i9) ak9 i9)
theorem dZ4:shR 4 (some (qdL prog f74)) (qd2 prog f74)=some [.must (.lt l8 (L7 j6)) (.lt l8 n8::a71.pc), .back [.i 5 (.add l8 l9), .c 2 qdX] (.lt l8 (L7 j6):: .lt l8 n8::a71.pc), .out 2 (.exit 0) (.not (.lt l8 n8)::a71.pc)]:=by kernel_rfl
theorem dZ7:Code.loop (Y9 (Sy.I9 [0,1,2] (Sy.I9 [1,1,1] (y7 f74))))=Sy.I9 [0,1,2] (Sy.I9 [1,1,1] (y7 f74)):=by kernel_rfl
theorem dZ3:shR 4 none (qd3 prog f74)=some [.out 0 .normal (.not (.lt l8 n8)::a71.pc)]:=by kernel_rfl
theorem du9:(I1 (qd3 prog f74) 0).hp=[quO 0 true j8 j5 qfq m8 n7 o9,cw9]:=by kernel_rfl
theorem da1:smR prog f74 4 (R6 prog [] 10 400 4 (.code (Sy.I9 [1,1,1,1,1] (y7 f74))) (qdW prog f74))=some [.ret (.one (.c (.str (.cut n9 i9 n8)))) [quO 0 true j8 j5 qfq m8 n7 o9] cw8.pc]:=by kernel_rfl
def aC8(s:QS):Int:=if s.over then s.next - 1 else s.next
def qdN(s:QS)(most:Int):Int:=min (max most 0) (aC8 s - s.read)
structure QdIn(s:QS)(most:Int):Prop where
 ok:QuOk s.R s.H
 r0:0<=s.read
 r1:s.read<=1153202979583557632
 e0:s.read<=aC8 s
 e1:aC8 s<=s.read+2048
 a0: -9223372036854775808<=most
 a1:most<=9223372036854775807
def a61(w:World)(g:Nat)(s:QS)(most:Int)(v:Value)(w':World):Prop:=
 v= .string (rdS (aH6 s.R) s.read (qdN s most).toNat)/\Blk w' g 132 (av5 { s with read:=s.read+qdN s most })/\Only (· =g) w w'
section
variable{s:QS}{most:Int}{w:World}{g:Nat}
theorem cl1{R:List (List Value)}(hk:∀ r∈R,S1 [.int .u8] r)(hl:R.length=2048)(q:Int):0<=aH6 R q/\aH6 R q<=255:=by
 unfold aH6;have hlt:(q % 2048).toNat<R.length:=by rw[hl];exact bX6 q
 have:=hk _ (aW5 hlt);generalize R.getD (q % 2048).toNat []=r at this
 match r,this with
 | [v],h=>
   obtain⟨n,rfl,hw⟩:=h.1;have hw:=aK2 hw;show 0<=IntKind.u8.wrap n/\IntKind.u8.wrap n<=255;rw[aU9 hw.1 hw.2];exact hw
theorem bx2{m:Int->Int}(hm:∀ q,0<=m q/\m q<=255)(p:Int):∀ k:Nat,as9 (rdS m p k).data.toList=(List.range k).map fun j=>[Value.int .u8 (m (p+(j:Nat)))]
 | 0=>rfl
 | k+1=>by
   have e:(rdS m p (k+1)).data.toList=(rdS m p k).data.toList++(ac2 (m (p+k))).data.toList:=by
    show((rdS m p k)++ac2 (m (p+k))).data.toList=_;rw[ByteArray.data_append,Array.toList_append]
   have ih:=bx2 hm p k;unfold as9 at ih ⊢;rw[e,bb,ih,bT2 (hm _).1 (hm _).2,List.range_succ,bb];congr 1;show [[Value.int .u8 ((UInt8.ofNat (m (p+k)).toNat).toNat:Int)]]=[[Value.int .u8 (m (p+k))]];have:=hm (p+k);rw[UInt8.toNat_ofNat',Nat.mod_eq_of_lt U];congr 3;omega
theorem eP6(n:Nat):(madeCells (Value.int .u8 0).cells n).toList=List.replicate n (.int .u8 0):=by
 unfold madeCells;apply List.ext_getElem?;intro i;rw[Array.getElem?_toList,Array.getElem?_map,List.getElem?_replicate];by_cases h:i<n
 .rw[if_pos h];simp[h,Value.cells,Nat.mod_one]
 .rw[if_neg h];simp[h]
structure QdI(s:QS)(most:Int)(J:Env):Prop where
 g:J.R8
 c0:J.c 0=s.R
 c1:J.c 1=s.H
 i0:J.i 0=s.read
 i1:J.i 1=s.next
 i3:J.i 3=s.fin
 i4:J.i 4=qdN s most
 b0:J.b 0=s.over
 s1:J.s 1=rdS (aH6 s.R) s.read (qdN s most).toNat
theorem QdI.cx(h:QdIn s most){J:Env}(I:QdI s most J):(qdT prog f74).cx.ok J:=by
 rw[dv0];obtain⟨_,r0,r1,e0,e1,_,_⟩:=h;obtain⟨_,_,_,i0,i1,_,i4,_,_⟩:=I;have hNj:qdN s most=min (max most 0) (aC8 s - s.read):=rfl;have hE:s.next=aC8 s\/s.next=aC8 s+1:=by unfold aC8;split<;>omega
 refine cxP ⟨?_,?_,?_,trivial⟩ trivial
 .show 0<=J.i 4/\J.i 4<=4096;omega
 .show 0<=J.i 0/\J.i 0<=2305843009213693952;omega
 .show 0<=J.i 1/\J.i 1<=2305843009213693952;omega
def aO5(s:QS)(n i:Nat):List (List Value):=((List.range i).map fun j=>[Value.int .u8 (aH6 s.R (s.read+(j:Nat)))])++List.replicate (n - i) [.int .u8 0]
theorem tabAt'_len(s:QS){n i:Nat}(h:i<=n):(aO5 s n i).length=n:=by
 unfold aO5;simp;omega
structure QlI(s:QS)(most:Int)(J:Env):Prop where
 d:QdI s most J
 pos:0<qdN s most
 j0:0<=J.i 5
 j1:J.i 5<=qdN s most
 c2:J.c 2=aO5 s (qdN s most).toNat (J.i 5).toNat
theorem bs2(h:QdIn s most){J:Env}(I:QlI s most J):a71.ok J:=by
 obtain⟨_,r0,r1,e0,e1,_,_⟩:=h;obtain⟨⟨_,_,_,i0,i1,_,i4,_,_⟩,pos,j0,j1,c2⟩:=I;have hNj:qdN s most=min (max most 0) (aC8 s - s.read):=rfl;have hE:s.next=aC8 s\/s.next=aC8 s+1:=by unfold aC8;split<;>omega
 have hl:((J.c 2).length:Int)=qdN s most:=by rw[c2,tabAt'_len s U];omega
 refine cxP ⟨?_,?_,?_,?_,?_,trivial⟩ ⟨?_,?_,trivial⟩
 .show 1<=J.i 4/\J.i 4<=4096;omega
 .show 0<=J.i 5/\J.i 5<=4096;omega
 .show(0:Int)<=((J.c 2).length:Int)/\((J.c 2).length:Int)<=4096;omega
 .show 0<=J.i 0/\J.i 0<=2305843009213693952;omega
 .show 0<=J.i 1/\J.i 1<=2305843009213693952;omega
 .rw[E5];show J.i 4<=((J.c 2).length:Int);omega
 .rw[E5];show((J.c 2).length:Int)<=J.i 4;omega
theorem cE1(h:QdIn s most){J:Env}(I:QdI s most J){w2:World}{N:Bn}{v:SV}(hH:Hp J (· =g) w (fun _=>g) 4 [quO 0 true j8 j5 qfq m8 n7 o9] N w2)(hv:v.A1 J N= .string (rdS (aH6 s.R) s.read (qdN s most).toNat)):a61 w g s most (v.A1 J N) w2:=by
 obtain⟨h1,h2⟩:=aX0.1 (hH.hp _ (ae ..));rw[hH.old 0 (show 0<4 by decide)]at h1;refine⟨hv,?_,hH.only⟩;have h1:Blk w2 g _ (aU0 (J.c 0) (J.c 1) (J.i 0+J.i 4) (J.i 1) (J.i 3) (J.b 0)):=h1;rw[I.c0,I.c1,I.i0,I.i4,I.i1,I.i3,I.b0]at h1;exact h1
theorem cw5(h:QdIn s most){J:Env}(I:QlI s most J)(h5:J.i 5=0){N:Bn}{a:Act}{w1:World}(hM:Md J (· =g) w (fun _=>g) 4 (qdY prog f74) N a w1):(Sy.I9 [1,1,1] (y7 f74)).wp prog (Y7 prog [1,1] (y7 f74) (bodyPost prog f74 (F7 (a61 w g s most)))) a w1:=by
 refine aa2 (p:=[0,1,2]) (r:=qd1 prog f74) (T:=qdL prog f74) rfl dZ5 (QlI s most) (fun J I=>by rw[cf7];exact bs2 h I) I.d.g (fun q hq=>by cases hq) ⟨?_,trivial⟩ ?_ hM
 .intro _ N u;obtain⟨⟨a1,a2,a3,a4,a5,a6,a7,a8,a9⟩,pos,j0,j1,c2⟩:=I;refine⟨⟨a1,a2,a3,a4,a5,a6,a7,a8,a9⟩,pos,aF 0,by show(0:Int)<=_;omega,?_⟩;show J.c 2=aO5 s (qdN s most).toNat 0;rw[c2,h5];rfl
 .intro J2 I2 N2 a2 w2 M2;rw[<-dZ7];refine aK0 (w0:=w) (r:=qd2 prog f74) rfl dZ4 (QlI s most) (fun J=>(qdN s most - J.i 5).toNat) (fun J I=>I.d.g) (fun J I q hq=>by cases hq) (fun J I=>by rw[cf7];exact bs2 h I) ?_ I2 M2;intro J I;have j0:=I.j0;have j1:=I.j1;have i4:=I.d.i4;have c2:=I.c2;have hl:((J.c 2).length:Int)=qdN s most:=by rw[c2,tabAt'_len s U];omega
  refine⟨?_,?_,?_,trivial⟩
  .intro hpc;have h1:=hpc.1;rw[A7]at h1 ⊢;have h1:J.i 5<J.i 4:=h1;show J.i 5<((J.c 2).length:Int);omega
  .intro hpc N u;have h1:=hpc.2.1;rw[A7]at h1;have h1:J.i 5<J.i 4:=h1;refine⟨⟨⟨I.d.g,I.d.c0,I.d.c1,I.d.i0,I.d.i1,I.d.i3,I.d.i4,I.d.b0,I.d.s1⟩,I.pos,?_,?_,?_⟩,?_⟩
   .show 0<=J.i 5+1;omega
   .show J.i 5+1<=_;omega
   .show(J.c 2).set (J.i 5).toNat [.int .u8 (aH6 (J.c 0) (J.i 0+J.i 5))]=aO5 s (qdN s most).toNat (J.i 5+1).toNat;rw[c2,I.d.c0,I.d.i0];obtain⟨k,hk⟩:∃ k:Nat,J.i 5=(k:Int):=⟨(J.i 5).toNat,by omega⟩;rw[hk];rw[show((k:Int)+1).toNat=k+1 from by omega,aK];have hlt:k<(qdN s most).toNat:=by omega
    unfold aO5;rw[show(qdN s most).toNat - k=((qdN s most).toNat - (k+1))+1 from by omega,List.replicate_succ,List.range_succ,bb,List.append_assoc];rw[List.set_append_right _ _ bM];congr 1;simp
   .show(qdN s most - (J.i 5+1)).toNat<(qdN s most - J.i 5).toNat;omega
  .intro hpc N a w' hM;have h1:=hpc.1;rw[y9,A7]at h1;have h1:¬J.i 5<J.i 4:=h1;show(Sy.I9 [1,1,1,1] (y7 f74)).wp prog (Y7 prog [1,1,1] (y7 f74) (bodyPost prog f74 (F7 (a61 w g s most)))) a w';refine ag2 (B:=⟨J,(· =g),w,fun _=>g,4⟩) (sp:=[]) (p:=[1]) (r:=qd3 prog f74) I.d.g (fun q hq=>by cases hq) rfl rfl dZ3 ⟨?_,trivial⟩ hM
   intro _ N3 a3 w3 M3;have hrows:(u9 J j6).c=as9 (u9 J n9).s.data.toList:=by
    show J.c 2=as9 (J.s 1).data.toList;rw[c2,I.d.s1,bx2 (cl1 h.ok.rk h.ok.rl)];unfold aO5;rw[show(J.i 5).toNat=(qdN s most).toNat from by omega,Nat.sub_self];simp
   have M4:=Sy.Md.eU3 M3 (b:=cw9) (t:= .cv 2) (str:= .sv 1) (by rw[du9];exact aj _ (ae ..)) rfl rfl hrows;have hsz:((J.s 1).size:Int)=qdN s most:=by rw[I.d.s1,bP3];omega
   have hc:cw8.ok J:=by
    have hNj:=bs2 h I;have:=h.r0;have:=h.r1;have:=h.e0;have:=h.e1;have:=I.d.i0;have:=I.d.i1;have:=I.pos;have hNj:qdN s most=min (max most 0) (aC8 s - s.read):=rfl;have hE:s.next=aC8 s\/s.next=aC8 s+1:=by unfold aC8;split<;>omega
    refine cxP ⟨?_,?_,?_,?_,trivial⟩ ⟨?_,?_,trivial⟩
    .show 1<=J.i 4/\J.i 4<=4096;omega
    .show(0:Int)<=((J.s 1).size:Int)/\((J.s 1).size:Int)<=4096;omega
    .show 0<=J.i 0/\J.i 0<=2305843009213693952;omega
    .show 0<=J.i 1/\J.i 1<=2305843009213693952;omega
    .rw[E5];show J.i 4<=((J.s 1).size:Int);omega
    .rw[E5];show((J.s 1).size:Int)<=J.i 4;omega
   have M5:Md J (· =g) w (fun _=>g) 4 (qdW prog f74) N3 a3 w3:=⟨M4.act,M4.hp,M4.ne,M4.may,hc,M4.only,M4.old⟩
   refine b19 (B:=⟨J,(· =g),w,fun _=>g,4⟩) I.d.g (fun q hq=>by cases hq) da1 ⟨?_,trivial⟩ M5
   intro _ N4 w4 hH;refine cE1 h I.d hH ?_;show Value.string ((J.s 1).extract (0:Int).toNat (J.i 4).toNat)=_;rw[<-I.d.s1];congr 1;exact(bH6 _ rfl U).symm
theorem bN4(h:QdIn s most)(hO:Blk w g 132 (av5 s)):
 Calls prog 74 #[.pointer (some ⟨g,0,none⟩), .int .i64 most] w (F7 (a61 w g s most)):=by
 let F:ByteArray:=rdS (aH6 s.R) s.read (qdN s most).toNat
 let J0:Env:=⟨fun n=>if n=0 then s.read else if n=1 then s.next else if n=2 then most else if n=3 then s.fin else 0,fun _=>s.over,fun _=>F,inF,fun _=> .bool false,fun _=> .bool false,fun n=>if n=0 then s.R else if n=1 then s.H else aO5 s (qdN s most).toNat 0,fun _=>Thing.a20⟩
 obtain⟨_,r0,r1,e0,e1,a0,a1⟩:=id h;have hNj:qdN s most=min (max most 0) (aC8 s - s.read):=rfl;have hE:s.next=aC8 s\/s.next=aC8 s+1:=by unfold aC8;split<;>omega
 have hcx:cM5.cx.ok J0:=by
  refine cxP ⟨?_,?_,?_,trivial⟩ trivial
  .show 0<=s.read/\s.read<=2305843009213693952;omega
  .show 0<=s.next/\s.next<=2305843009213693952;omega
  .show -9223372036854775808<=most/\most<=9223372036854775807;omega
 have hM0:Md J0 (· =g) w (fun _=>g) 4 cM5 (fun _=>g) ⟨#[],[]⟩ w:=Sy.Md.ax8 ⟨aX0.2 ⟨hO,h.ok⟩,trivial⟩ ⟨trivial,trivial⟩ ⟨fun _ _ q hq=>Q9 rfl hq,trivial⟩ hcx rfl
 have hgood:J0.R8:=fun i=>rfl
 obtain⟨t5,e⟩:=Prod.mk.inj dv2;obtain⟨t13,e⟩:=Prod.mk.inj e;obtain⟨n13,e⟩:=Prod.mk.inj e;obtain⟨t14,n14⟩:=Prod.mk.inj e;obtain⟨f40,f41⟩:=Prod.mk.inj dZ9;obtain⟨z14,e⟩:=Prod.mk.inj cw7;obtain⟨zn14,e⟩:=Prod.mk.inj e;obtain⟨y14,yn14⟩:=Prod.mk.inj e;obtain⟨ii,hi,hz,hsz,hby⟩:=dZ8;have main:∀ J:Env,QdI s most J->J.c 2=aO5 s (qdN s most).toNat 0->J.i 5=0->∀ N a w1,Md J (· =g) w (fun _=>g) 4 (qdT prog f74) N a w1->(Sy.I9 [1,1,0] (y7 f74)).wp prog (Y7 prog [1,1,0] (y7 f74) (bodyPost prog f74 (F7 (a61 w g s most)))) a w1:=by
  intro J I hc2 h5 N a w1 hM;obtain⟨o1,o2,o3,hc,⟨g1,p1,d1⟩,⟨g2,p2,d2⟩,⟨g3,p3,d3⟩⟩:=eO5.c;rw[hc];refine wp_region_list ?_;show wpList _ _ _ [o1,o2,o3] a w1;obtain⟨n,hn⟩:∃ n:Nat,qdN s most=(n:Int):=⟨(qdN s most).toNat,by omega⟩;refine aA3 (v:= .int .i64 (n:Int)) (w':=w1) g1 ?_ ?_
  .have:=Sy.Md.bC8 hM t5;have e5:(iI 4).A1 J N= .int .i64 (n:Int):=by show Value.int .i64 (J.i 4)=_;rw[I.i4,hn]
   rw[e5]at this;unfold execOp;simp only[p1,this,am,aq,ai]
  rw[d1];have M1:=Sy.Md.ax6 hM t13 n13 (.int .i64 (n:Int));have hrun:(Instr.makeSlice 108 (.int .i64 (n:Int)) (.int .i64 (n:Int))).run prog w1= .ok (.slice (some ⟨w1.heap.size,0,none⟩) n n) (w1.alloc (.cells (madeCells (Value.int .u8 0).cells n) 5)):=by
   have:=run_makeSlice (P:=prog) (w:=w1) 108 5 ii (.int .u8 0) underlying108 hi hz .i64 .i64 (n:Int) (n:Int) U (aF _) (by rw[hsz];omega) (by rw[hby];omega) U;rw[hsz,Nat.mul_one,aK]at this;exact this
  refine aA3 (v:= .slice (some ⟨w1.heap.size,0,none⟩) n n) (w':=w1.alloc (.cells (madeCells (Value.int .u8 0).cells n) 5)) g2 ?_ ?_
  .have h13:(a.put (some 13) (.int .i64 (n:Int))).eval (.tmp 13)= .int .i64 (n:Int):=(Sy.Md.bC8 M1 t13).trans a37;unfold execOp;simp only[p2,h13,am,hrun,ai,aq]
  rw[d2];have e14:∀ a':Act,14<a'.tmps.size->(a'.put (some 14) (.slice (some ⟨w1.heap.size,0,none⟩) n n)).eval (.tmp 14)= .slice (some ⟨w1.heap.size,0,none⟩) n n:=fun a' hlt=>by
   show((a'.tmps.setIfInBounds 14 _).getD 14 undef)=_;simp[hlt]
  have hsize:14<(a.put (some 13) (.int .i64 (n:Int))).tmps.size:=by
   rw[M1.act];have:14<(qdT prog f74).tm.length:=(List.getElem?_eq_some_iff.1 t14).1;simpa using this
  refine aA3 (v:= .slice (some ⟨w1.heap.size,0,none⟩) n n) (w':=w1.alloc (.cells (madeCells (Value.int .u8 0).cells n) 5)) g3 ?_ ?_
  .unfold execOp;simp only[p3,e14 _ hsize,am,aq,ai]
  rw[d3];refine wpList_nil ?_;show(Sy.I9 [1,1,1] (y7 f74)).wp prog (Y7 prog [1,1] (y7 f74) (bodyPost prog f74 (F7 (a61 w g s most)))) _ _;have hU:∀ u,QdI s most { J with u:=u }:=fun u=>⟨I.g,I.c0,I.c1,I.i0,I.i1,I.i3,I.i4,I.b0,I.s1⟩
  by_cases hn0:n=0
  .subst hn0;have M2:=Sy.Md.new M1 40 bA f40 5 [] rfl;have em:madeCells (Value.int .u8 0).cells 0=#[]:=by simp[madeCells]
   rw[em];have M3:=Sy.Md.ax6 M2 z14 zn14 (.slice (some ⟨w1.heap.size,0,none⟩) 0 0);have M4:=Sy.Md.put M3 (some 6) slZ;have e6:∀ J':Env,slZ.A1 J' (E8 N 40 w1.heap.size)= .slice (some ⟨w1.heap.size,0,none⟩) 0 0:=fun J'=>by
    show Value.slice (some ⟨E8 N 40 w1.heap.size 40,0,none⟩) 0 0=_;rw[K7]
   rw[e6]at M4;refine b19 (B:=⟨{ J with u:=fun n=>if n=14 then .slice (some ⟨w1.heap.size,0,none⟩) 0 0 else if n=13 then .int .i64 ((0:Nat):Int)else J.u n },(· =g),w,fun _=>g,4⟩) (hU _).g (fun q hq=>by cases hq) da0 ⟨?_,trivial⟩ M4
   intro _ N4 w4 hH;refine cE1 h (hU _) hH ?_;show Value.string K4=_;rw[hn];rfl
  .have hG:GrownT w1 (w1.alloc (.cells (madeCells (Value.int .u8 0).cells n) 5)) 0 0 5 [.int .u8] (aO5 s n 0) w1.heap.size n:=by
    have hl:(aO5 s n 0).length=n:=tabAt'_len s (bf _);have hfl:(aO5 s n 0).flatten=List.replicate n (.int .u8 0):=by
     unfold aO5;show(List.replicate (n - 0) [Value.int .u8 0]).flatten=_;rw[Nat.sub_zero];generalize n=k
     induction k with
     | zero=>rfl
     | succ k ih=>rw[List.replicate_succ,List.replicate_succ,List.flatten_cons,ih];rfl
    refine⟨⟨fun _=>⟨madeCells (Value.int .u8 0).cells n,(Go.MapKept.heap_alloc w1 _).1,by rw[size_madeCells];exact(Nat.mul_one n).symm,by unfold maxLen;omega,?_⟩,by rw[hl];exact aI n,fun r hr=>?_⟩,World.grownBy_alloc w1 _ none, .inr (.inr (aI _))⟩
    .rw[hfl,hl,eP6];show List.take (n*1) _=_;rw[Nat.mul_one,bh bM]
    .unfold aO5 at hr;have hr:r∈List.replicate (n - 0) [Value.int .u8 0]:=hr;rw[(List.mem_replicate.1 hr).2];exact⟨⟨0,rfl,by decide⟩,trivial⟩
   have M2:=Sy.Md.cZ3 M1 40 bA f40 f41 hG (old:=none) (t:= .cv 2) (by show J.c 2=_;rw[hc2,hn,aK]) (.inl rfl);have M3:=Sy.Md.ax6 M2 y14 yn14 (.slice (some ⟨w1.heap.size,0,none⟩) n n);have M4:=Sy.Md.put M3 (some 6) slY;have e6:∀ u,slY.A1 { J with u:=u } (E8 (E8 N 40 w1.heap.size) 41 n)= .slice (some ⟨w1.heap.size,0,none⟩) n n:=fun u=>by
    show aK5 (E8 (E8 N 40 w1.heap.size) 41 n 40) (E8 (E8 N 40 w1.heap.size) 41 n 41) 1 0 (J.i 4).toNat 0=_;rw[K7,B3 bA,K7,aD2,aZ8 hn0,I.i4,hn,aK]
   have hL:∀ u,QlI s most { J with u:=u }:=fun u=>⟨hU u,by omega,by show 0<=J.i 5;omega,by show J.i 5<=_;omega,by show J.c 2=aO5 s _ (J.i 5).toNat;rw[hc2,h5];rfl⟩
   have e6':=e6 (fun n_1=>if n_1=14 then .slice (some ⟨w1.heap.size,0,none⟩) n n else if n_1=13 then .int .i64 (n:Int)else J.u n_1);rw[e6']at M4;have M5:Md { J with u:=fun n_1=>if n_1=14 then .slice (some ⟨w1.heap.size,0,none⟩) n n else if n_1=13 then .int .i64 (n:Int)else J.u n_1 } (· =g) w (fun _=>g) 4 (qdY prog f74) _ _ _:=⟨M4.act,M4.hp,M4.ne,M4.may,bs2 h (hL _),M4.only,M4.old⟩
   exact cw5 h (hL (fun n_1=>if n_1=14 then .slice (some ⟨w1.heap.size,0,none⟩) n n else if n_1=13 then .int .i64 (n:Int)else J.u n_1)) h5 M5
 refine aH2 (B:=⟨J0,(· =g),w,fun _=>g,4⟩) (sp:=[]) (p:=[1,1,0]) (xs:=[.one (.c (.ptr 0 0)),iI 2]) (s:=cM5) (r:=qd0 prog f74) hgood (fun q hq=>by cases hq) rfl func74 rfl rfl dZ6 hM0 ⟨?_,?_,trivial⟩ rfl
 .intro hpc N a w1 hM;have ho:s.over=true:=hpc.1;have hI:∀ u,QdI s most { J0.L5 N [.i 4 (qdE qen)]with u:=u }:=fun u=>by
   refine⟨hgood,rfl,rfl,rfl,rfl,rfl,?_,rfl,rfl⟩;show(u9 J0 (qdE qen)).i=_;rw[qdE,cW1,av3,bu5];show min (s.next+ -1 - s.read) (max most 0)=_;unfold qdN aC8;rw[ho,if_pos rfl];omega
  obtain⟨u,N',M⟩:=Sy.Md.aL7 hM cf6 fun u=>(hI u).cx h
  exact main _ (hI u) rfl rfl _ _ _ M
 .intro hpc N a w1 hM;have ho:s.over=false:=by
   have:=hpc.1;rw[y9]at this;cases q:s.over with
   | false=>rfl
   | true=>exact absurd q this
  have hI:∀ u,QdI s most { J0.L5 N [.i 4 (qdE m8)]with u:=u }:=fun u=>by
   refine⟨hgood,rfl,rfl,rfl,rfl,rfl,?_,rfl,rfl⟩;show(u9 J0 (qdE m8)).i=_;rw[qdE,cW1,av3,bu5];show min (s.next - s.read) (max most 0)=_;unfold qdN aC8;rw[ho,if_neg bA];omega
  obtain⟨u,N',M⟩:=Sy.Md.aL7 hM cf5 fun u=>(hI u).cx h
  exact main _ (hI u) rfl rfl _ _ _ M
end
end Go.Proofs.YtnlcpcmdlcakgaaGreat
