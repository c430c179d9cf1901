/- A part of the proof that a connection answers as the document says: Iq6 Iq7 Iq8. -/
import Derived.Test.YtnlcpcmdlcakgaaGreatKh16
set_option maxRecDepth 100000
set_option maxHeartbeats 4000000
set_option linter.unusedVariables false
set_option linter.unusedSimpArgs false
set_option linter.unusedSectionVars false
open Go.Proofs.Tryz
namespace Go.Proofs.YtnlcpcmdlcakgaaGreat
open Go.RowKit Sy
def aP5(L:List (List Value))(p:Int):Int:=match V6 L p with
 | some b=>b
 | none=>0
def rdS(m:Int->Int)(p:Int):Nat->ByteArray
 | 0=>K4
 | k+1=>rdS m p k++ac2 (m (p+k))
theorem cQ6(n:Int):(ac2 n).size=1:=rfl
theorem bP3(m:Int->Int)(p:Int):∀ k,(rdS m p k).size=k
 | 0=>rfl
 | k+1=>by
   show(rdS m p k++ac2 (m (p+k))).size=k+1;rw[aR,bP3 m p k,cQ6]
def rdN(L:List (List Value))(read most:Int):Int:=min (max most 0) (L1 L read - read)
def pkT(t x:Tm):Tm:= .ite (inC t x) (.tb (.get (.int .u8) 1) t (an5 1 t (.tb qax x ak9 i9)) i9) i9
theorem cG1:∀{L:List (List Value)} (_:aB2 L) {p:Int} {j:Nat},inM L p=some j->∃ k b,L.getD j []=[.int .i64 k, .int .u8 b]/\(Lit.int .u8 b).wf=true/\V6 L p=some b
 | [],_,p,j,h=>by cases h
 | r::l,hg,p,j,h=>by
   obtain⟨k,b,rfl,_,hb⟩:=aV8 (hg r (ae ..));rw[a80]at h;split at h
   .rename_i q;injection h with h;subst h;exact⟨k,b,rfl,hb,if_pos q⟩
   .rename_i q;obtain⟨i,hi,e⟩:=aw.1 h;subst e;obtain⟨k',b',h1,h2,h3⟩:=cG1 (fun r hr=>hg r (aj _ hr)) hi;refine⟨k',b',h1,h2,?_⟩;show(if k=p then some b else V6 l p)=_;rw[if_neg q];exact h3
theorem dw9{J:Env}{t x:Tm}(hg:aB2 (u9 J t).c):(u9 J (pkT t x)).i=aP5 (u9 J t).c (u9 J x).i:=by
 rw[pkT,aD5];have hq:=cj5 (J:=J) t x;unfold aP5;cases h:inM (u9 J t).c (u9 J x).i with
 | none=>
   rw[if_neg (fun q=>by rw[hq]at q;exact q h),(ag9 hg _).1 h];rfl
 | some j=>
   rw[if_pos (by rw[hq,h];simp)];obtain⟨k,b,h1,h2,h3⟩:=cG1 hg h;rw[h3];rw[eU0,ap5 (k:=kR (u9 J x).i) rfl];have:mIx 1 (kR (u9 J x).i) (u9 J t).c=(j:Int):=by
    unfold mIx;rw[show fM 1 (kR (u9 J x).i) (u9 J t).c=some j from h]
   rw[this,aK,h1];have hw:=aK2 h2;exact aU9 hw.1 hw.2
def rdP:List Nat:=[1,1,1,0,1,2]
def eY2:List Bd:=[B61 j9,B61 m8,B61 (kmT j8),I64 m9]
def ah6:Sy.St:=⟨[],[inO 0 2 true j9 m8,inT 2 true j8],⟨eY2,[]⟩,4⟩
def rdA:List SV:=[.one (.c (.ptr 0 0)),iI 2]
def rd0(P:Program)(fn:Func):Rs:=R6 P [af8] 10 400 4 (.code (pre rdP (y7 fn))) (L3 fn rdA ah6)
def du1:List Bd:=[B61 n8,B61 n7,⟨.iv 5,0,2305843009213693953⟩,⟨.len n9,0,2305843009213693952⟩]
def du0:SV:= .one (.c (.str n9))
def rdT(P:Program)(fn:Func):Sy.St:=a13 (I1 (rd0 P fn) 0) [0] [(6,du0),(12,iI 4),(13,iI 3)] [inO 0 2 true l8 m8] ⟨du1,[]⟩ 10
def rd1(P:Program)(fn:Func):Rs:=R6 P [] 10 400 4 (.code (Y9 (Sy.I9 rdP (y7 fn)))) (rdT P fn)
def rdR:Tm:= .sub qfm j9
def av3:Tm:= .ite (.lt m9 i9) i9 m9
abbrev qgd:Tm:= .ite (.lt rdR av3) rdR av3
theorem dX6:shR 4 none (rd0 prog f77)=some [.out 0 .normal []]:=by kernel_rfl
theorem cw1:(aA1 4 (rdT prog f77) (I1 (rd0 prog f77) 0)).map noU=some [.s 1 p9, .i 4 qgd, .i 3 i9, .i 5 j9]:=by kernel_rfl
def rdB:List As:=[.s 1 (.app n9 (.chr (pkT j8 l8))), .i 3 qfp, .i 5 (.add l8 l9)]
theorem dX5:shR 4 (some (rdT prog f77)) (rd1 prog f77)=some (fq8 [.b (.lt n7 n8),.l (.back rdB),.l (.out 1 (.exit 0))] [[]]):=by kernel_rfl
theorem dX7:Code.loop (Y9 (Sy.I9 rdP (y7 f77)))=Sy.I9 rdP (y7 f77):=by kernel_rfl
theorem eO3:(rdT prog f77).cx=⟨du1,[]⟩:=by kernel_rfl
theorem dt9:smR prog f77 4 (R6 prog [] 10 400 4 (.code (aft (.exit 0) rdP (y7 f77))) (I1 (rd1 prog f77) 1))=some [.ret du0 [inO 0 2 true l8 m8,inT 2 true j8] [.not (.lt n7 n8)]]:=by kernel_rfl
structure RdIn(L:List (List Value))(read fin most:Int):Prop where
 g:aB2 L
 k:Q7 L<=1153202979583557632
 r0:0<=read
 r1:read<=1153202979583557632
 f0:0<=fin
 f1:fin<=1153202979583557632
 a0: -9223372036854775808<=most
 a1:most<=9223372036854775807
def eK0(w:World)(g gm:Nat)(L:List (List Value))(read fin most:Int)(v:Value)(w':World):Prop:=
 v= .string (rdS (aP5 L) read (rdN L read most).toNat)/\Blk w' g 135 (aG3 gm (read+rdN L read most) fin)/\MapT w' gm [.int .i64] false (.int .u8) L/\Only (fun x=>x=g\/x=gm) w w'
section
variable{L:List (List Value)}{read fin most:Int}{w:World}{g gm:Nat}
structure RdI(L:List (List Value))(read fin most:Int)(J:Env):Prop where
 g:J.R8
 c0:J.c 0=L
 i1:J.i 1=fin
 i4:J.i 4=rdN L read most
 n0:0<=J.i 3
 n1:J.i 3<=rdN L read most
 i5:J.i 5=read+J.i 3
 s1:J.s 1=rdS (aP5 L) read (J.i 3).toNat
theorem a28(h:RdIn L read fin most):0<=rdN L read most/\rdN L read most<=1153202979583557632/\read+rdN L read most<=1153202979583557632:=by
 have:=ao6 h.g read;have:=(aR8 h.g read).1;have:=h.k;have:=h.r1;have:=h.r0;unfold rdN;omega
theorem RdI.cx(h:RdIn L read fin most){J:Env}(I:RdI L read fin most J):(rdT prog f77).cx.ok J:=by
 rw[eO3];have hr:=a28 h;have e4:=I.i4;have n0:=I.n0;have n1:=I.n1;have e5:=I.i5;have r0:=h.r0;have r1:=h.r1;refine cxP ⟨?_,?_,?_,?_,trivial⟩ trivial
 .show 0<=J.i 4/\J.i 4<=2305843009213693952;omega
 .show 0<=J.i 3/\J.i 3<=2305843009213693952;omega
 .show 0<=J.i 5/\J.i 5<=2305843009213693953;omega
 .show(0:Int)<=((J.s 1).size:Int)/\((J.s 1).size:Int)<=2305843009213693952;rw[I.s1,bP3];omega
theorem bN0(h:RdIn L read fin most)(hO:Blk w g 135 (aG3 gm read fin))(hT:MapT w gm [.int .i64] false (.int .u8) L)(hne:g≠gm):
 Calls prog 77 #[.pointer (some ⟨g,0,none⟩), .int .i64 most] w (F7 (eK0 w g gm L read fin most)):=by
 let J0:Env:=⟨fun n=>if n=0 then read else if n=1 then fin else most,fun _=>false,fun _=>K4,inF,fun _=> .bool false,fun _=> .bool false,fun _=>L,fun _=>Thing.a20⟩
 have hk0:=aI8 L;have hcx:ah6.cx.ok J0:=by
  have r0:=h.r0;have r1:=h.r1;have f0:=h.f0;have f1:=h.f1;have a0:=h.a0;have a1:=h.a1;have hk:=h.k;refine cxP ⟨?_,?_,?_,?_,trivial⟩ trivial
  .show 0<=read/\read<=2305843009213693952;omega
  .show 0<=fin/\fin<=2305843009213693952;omega
  .show 0<=Q7 L/\Q7 L<=2305843009213693952;omega
  .show -9223372036854775808<=most/\most<=9223372036854775807;omega
 have hM0:Md J0 (S2 g gm) w (bn2 g gm) 4 ah6 (bn2 g gm) ⟨#[],[]⟩ w:=Sy.Md.ax8 ⟨hO,hT,trivial⟩ ⟨⟨fun _ _=>apart.of rfl rfl hne,trivial⟩,trivial,trivial⟩ ⟨fun _ _ q hq=> .inl (Q9 rfl hq),fun _ _ q hq=> .inr (Q9 rfl hq),trivial⟩ hcx rfl
 refine aH2 (B:=⟨J0,S2 g gm,w,bn2 g gm,4⟩) (sp:=[af8]) (p:=rdP) (xs:=rdA) (s:=ah6) (r:=rd0 prog f77) (fun i=>rfl) (a91 rfl) rfl func77 rfl rfl dX6 hM0 ⟨?_,trivial⟩ rfl;intro _ N a w1 hM1;show(Sy.I9 rdP (y7 f77)).wp prog _ a w1;rw[<-dX7];have hr:=a28 h;have hI1:∀ u,RdI L read fin most { J0.L5 N [.s 1 p9, .i 4 qgd, .i 3 i9, .i 5 j9]with u:=u }:=fun u=>by
  refine⟨fun i=>rfl,rfl,rfl,?_,aF 0,hr.1,?_,rfl⟩
  .show(u9 J0 qgd).i=_;rw[cW1,av3,bu5];show min (L1 L read - read) (max most 0)=min (max most 0) (L1 L read - read);omega
  .show read=read+0;omega
 obtain⟨u,N',hM2⟩:=Sy.Md.aL7 hM1 cw1 fun u=>(hI1 u).cx h
 refine aK0 (w0:=w) (r:=rd1 prog f77) rfl dX5 (RdI L read fin most) (fun J=>(rdN L read most - J.i 3).toNat) (fun J I=>I.g) (fun J I q hq=>by cases hq) (fun J I=>I.cx h) ?_ (hI1 u) hM2;intro J I;have n0:=I.n0;have n1:=I.n1;have e4:=I.i4;have e5:=I.i5;refine⟨?_,?_,trivial⟩;all_goals
  intro hpc;replace hpc:A6 J _:=hpc;simp only[A6,A7,y9,F0,e4,and_true]at hpc
 .intro N u;have et:(J.i 3+1).toNat=(J.i 3).toNat+1:=by omega
  refine⟨⟨I.g,I.c0,I.i1,I.i4,?_,?_,?_,?_⟩,?_⟩
  .show 0<=J.i 3+1;omega
  .show J.i 3+1<=_;omega
  .show J.i 5+1=read+(J.i 3+1);omega
  .show J.s 1++ac2 (u9 J (pkT j8 l8)).i=rdS (aP5 L) read (J.i 3+1).toNat;have hg:aB2 (u9 J j8).c:=by
    show aB2 (J.c 0);rw[I.c0];exact h.g
   rw[dw9 hg,et,I.s1];show _++ac2 (aP5 (J.c 0) (J.i 5))=rdS (aP5 L) read (J.i 3).toNat++ac2 (aP5 L (read+(J.i 3).toNat));rw[I.c0,e5,show read+((J.i 3).toNat:Int)=read+J.i 3 from by omega]
  .show(rdN L read most - (J.i 3+1)).toNat<(rdN L read most - J.i 3).toNat;omega
 .intro N a w' hM;refine aY4 (B:=⟨J,S2 g gm,w,bn2 g gm,4⟩) I.g (fun q hq=>by cases hq) rfl (.exit 0) dt9 ⟨?_,trivial⟩ hM;intro _ N2 w2 hH;have en:J.i 3=rdN L read most:=by omega
  refine⟨?_,?_,?_,hH.only⟩
  .show Value.string (J.s 1)=_;rw[I.s1,en]
  .have:=hH.hp _ (ae ..);have:Blk w2 (N2 0) 135 (aG3 (N2 2) (J.i 5) (J.i 1)):=this;rw[hH.old 0 (show 0<4 by decide),hH.old 2 (show 2<4 by decide),e5,en,I.i1]at this;exact this
  .have:=hH.hp _ (aj _ (ae ..));have:MapT w2 (N2 2) [.int .i64] false (.int .u8) (J.c 0):=this;rw[hH.old 2 (show 2<4 by decide),I.c0]at this;exact this
end
def X8(H:List (List Value))(q:Int):Bool:=(aF3 .bool ((H.getD (q % 2048).toNat []).getD 0 (.bool false))).b
def cR0(H:List (List Value)):Nat->Int->Bool
 | 0,_=>false
 | n+1,p=>X8 H p||cR0 H n (p+1)
def beh(H:List (List Value))(p e:Int):Bool:=cR0 H (e - p).toNat p
theorem b12{H:List (List Value)}:∀(n:Nat) (p:Int),cR0 H n p=true↔∃ q,p<=q/\q<p+n/\X8 H q=true
 | 0,p=>⟨fun h=>bF,fun⟨q,h1,h2,_⟩=>U⟩
 | n+1,p=>by
   show(X8 H p||cR0 H n (p+1))=true↔_;rw[bp,b12 n (p+1)];constructor
   .rintro(h|⟨q,h1,h2,h3⟩)
    .exact⟨p,aF p,by omega,h⟩
    .exact⟨q,by omega,by omega,h3⟩
   .rintro⟨q,h1,h2,h3⟩;by_cases e:q=p
    .exact .inl (by rw[<-e];exact h3)
    .exact .inr ⟨q,by omega,by omega,h3⟩
theorem bK3{H:List (List Value)}{p e:Int}:beh H p e=true↔∃ q,p<=q/\q<e/\X8 H q=true:=by
 unfold beh;rw[b12];constructor
 .rintro⟨q,h1,h2,h3⟩;exact⟨q,h1,by omega,h3⟩
 .rintro⟨q,h1,h2,h3⟩;exact⟨q,h1,by omega,h3⟩
def quO(l:Nat)(rw:Bool)(R H r n f o:Tm):Bk:=⟨l,132,[.int .i64 r, .int .i64 n, .int .i64 f, .bool o],rw,none, .arr [⟨0,[.int .u8],2048,R⟩,⟨0,[.bool],2048,H⟩]⟩
def aU0(R H:List (List Value))(read next fin:Int)(over:Bool):List Value:=R.flatten++(H.flatten++[.int .i64 read, .int .i64 next, .int .i64 fin, .bool over])
structure QuOk(R H:List (List Value)):Prop where
 rl:R.length=2048
 rk:∀ r∈R,S1 [.int .u8] r
 hl:H.length=2048
 hk:∀ r∈H,S1 [.bool] r
theorem aX0{J:Env}{N:Bn}{w:World}{l:Nat}{rw:Bool}{R H r n f o:Tm}:BkOk J N w (quO l rw R H r n f o)↔Blk w (N l) 132 (aU0 (u9 J R).c (u9 J H).c (u9 J r).i (u9 J n).i (u9 J f).i (u9 J o).b)/\QuOk (u9 J R).c (u9 J H).c:=by
 constructor
 .rintro⟨h1,h2⟩;have a:=h2 ⟨0,[.int .u8],2048,R⟩ (ae ..);have b:=h2 ⟨0,[.bool],2048,H⟩ (aj _ (ae ..));exact⟨h1,⟨a.1,a.2,b.1,b.2⟩⟩
 .rintro⟨h1,h2⟩;refine⟨h1,fun x hx=>?_⟩;rcases aa.1 hx with rfl|hx
  .exact⟨h2.rl,h2.rk⟩
  .rw[ah.1 hx];exact⟨h2.hl,h2.hk⟩
def beP:List Nat:=[1,0,2]
def c57:List Bd:=[B61 n8,B61 l8]
def cR1:Sy.St:=⟨[],[quO 0 false j8 j5 j9 m8 m9 o9],⟨c57,[]⟩,4⟩
def be0(P:Program)(fn:Func):Rs:=R6 P [] 10 400 4 (.code (pre beP (y7 fn))) (L3 fn [.one (.c (.ptr 0 0)),iI 4,iI 5] cR1)
def beT(P:Program)(fn:Func):Sy.St:=a13 (I1 (be0 P fn) 0) [0,2] [(1,iI 6)] [] ⟨B61 p7::c57,[]⟩ 10
def be1(P:Program)(fn:Func):Rs:=R6 P [] 10 400 4 (.code (Y9 (Sy.I9 beP (y7 fn)))) (beT P fn)
def hsT(t x:Tm):Tm:= .tb (.get .bool 0) t (.md x o7) i9
theorem bz3{J:Env}(t x:Tm):(u9 J (hsT t x)).b=X8 (u9 J t).c (u9 J x).i:=rfl
theorem di1:shR 4 none (be0 prog f131)=some [.out 0 .normal []]:=by kernel_rfl
theorem c55:(aA1 4 (beT prog f131) (I1 (be0 prog f131) 0)).map noU=some [.i 6 n8]:=by kernel_rfl
theorem di0:shR 4 (some (beT prog f131)) (be1 prog f131)=some (fq8 [.b (.lt p7 l8),.b (hsT j5 p7),.l (.out 0 .ret),.l (.back [.i 6 (.add p7 l9)]),.l (.out 2 (.exit 0))] [[]]):=by kernel_rfl
theorem di2:Code.loop (Y9 (Sy.I9 beP (y7 f131)))=Sy.I9 beP (y7 f131):=by kernel_rfl
theorem eS4:(beT prog f131).cx=⟨B61 p7::c57,[]⟩:=by kernel_rfl
theorem eE0:aD7 prog (I1 (be1 prog f131) 0) f131.results.toList=some qaa:=by kernel_rfl
theorem eE1:smR prog f131 4 (R6 prog [] 10 400 4 (.code (aft (.exit 0) beP (y7 f131))) (I1 (be1 prog f131) 2))=some [.ret qal cR1.hp [.not (.lt p7 l8)]]:=by kernel_rfl
structure BeI(H:List (List Value))(p e:Int)(J:Env):Prop where
 g:J.R8
 c1:J.c 1=H
 i4:J.i 4=p
 i5:J.i 5=e
 le:p<=J.i 6
 up:J.i 6<=max p e
 no:∀ q,p<=q->q<J.i 6->X8 H q=false
theorem c56{w:World}{g:Nat}{R H:List (List Value)}{read next fin p e:Int}{over:Bool}(hO:Blk w g 132 (aU0 R H read next fin over))(hQ:QuOk R H)(p0:0<=p)(p1:p<=2305843009213693952)(e0:0<=e)(e1:e<=2305843009213693952):
 Calls prog 131 #[.pointer (some ⟨g,0,none⟩), .int .i64 p, .int .i64 e] w (F7 fun v w'=>v= .bool (beh H p e)/\Below w.heap.size w w'):=by
 let J0:Env:=⟨fun n=>if n=0 then read else if n=1 then next else if n=2 then fin else if n=4 then p else e,fun _=>over,fun _=>K4,inF,fun _=> .bool false,fun _=> .bool false,fun n=>if n=0 then R else H,fun _=>Thing.a20⟩
 have hM0:Md J0 (fun _=>False) w (fun _=>g) 4 cR1 (fun _=>g) ⟨#[],[]⟩ w:=Sy.Md.ax8 ⟨aX0.2 ⟨hO,hQ⟩,trivial⟩ ⟨trivial,trivial⟩ ⟨fun h=>bF,trivial⟩ (cxP ⟨⟨p0,p1⟩,⟨e0,e1⟩,trivial⟩ trivial) rfl;refine aH2 (B:=⟨J0,fun _=>False,w,fun _=>g,4⟩) (sp:=[]) (p:=beP) (xs:=[.one (.c (.ptr 0 0)),iI 4,iI 5]) (s:=cR1) (r:=be0 prog f131) (fun i=>rfl) (fun q hq=>by cases hq) rfl func131 rfl rfl di1 hM0 ⟨?_,trivial⟩ rfl;intro _ N a w1 hM1;show(Sy.I9 beP (y7 f131)).wp prog _ a w1;rw[<-di2];have cx:∀ J,BeI H p e J->(beT prog f131).cx.ok J:=fun J I=>by
  rw[eS4];have:=I.i4;have:=I.i5;have:=I.le;have:=I.up;exact cxP ⟨⟨show 0<=J.i 6 by omega,show J.i 6<=2305843009213693952 by omega⟩,⟨show 0<=J.i 4 by omega,show J.i 4<=2305843009213693952 by omega⟩,⟨show 0<=J.i 5 by omega,show J.i 5<=2305843009213693952 by omega⟩,trivial⟩ trivial
 have hI1:∀ u,BeI H p e { J0.L5 N [.i 6 n8]with u:=u }:=fun u=>⟨fun i=>rfl,rfl,rfl,rfl,aF _,(by show p<=max p e;omega),fun q h1 h2=>by have h2:q<p:=h2;omega⟩
 obtain⟨u,N',hM2⟩:=Sy.Md.aL7 hM1 c55 fun u=>cx _ (hI1 u)
 refine aK0 (w0:=w) (r:=be1 prog f131) rfl di0 (BeI H p e) (fun J=>(e - J.i 6).toNat) (fun J I=>I.g) (fun J I q hq=>by cases hq) cx ?_ (hI1 u) hM2;intro J I;have i5:=I.i5;have hle:=I.le;refine⟨?_,?_,?_,trivial⟩;all_goals
  intro hpc;replace hpc:A6 J _:=hpc;simp only[A6,A7,y9,F0,bz3,dG9,I.c1,i5,and_true]at hpc
 .intro N a w' hM;refine aQ5 beP (y7 f131) _ (aL9 (B:=⟨J,fun _=>False,w,fun _=>g,4⟩) hM eE0 ⟨?_,Sy.Only.R9 hM.only⟩);show Value.bool true=_;rw[bK3.2 ⟨J.i 6,hle,hpc.2,hpc.1⟩]
 .intro N u;refine⟨⟨I.g,I.c1,I.i4,I.i5,?_,?_,?_⟩,?_⟩
  .show p<=J.i 6+1;omega
  .show J.i 6+1<=_;omega
  .intro q h1 h2;have h2:q<J.i 6+1:=h2;by_cases e':q=J.i 6
   .rw[e'];simpa using hpc.1
   .exact I.no q h1 U
  .show(e - (J.i 6+1)).toNat<(e - J.i 6).toNat;omega
 .intro N a w' hM;refine aY4 (B:=⟨J,fun _=>False,w,fun _=>g,4⟩) I.g (fun q hq=>by cases hq) rfl (.exit 0) eE1 ⟨?_,trivial⟩ hM;intro _ N2 w2 hH;refine⟨?_,Sy.Only.R9 hH.only⟩;show Value.bool false=_;cases h:beh H p e with
  | false=>rfl
  | true=>
    obtain⟨q,h1,h2,h3⟩:=bK3.1 h;rw[I.no q h1 U]at h3;cases h3
def bX2(s:Sy.St)(l:Nat):Option (Tm × Tm × Tm × Tm × Tm × Tm):=
 match aD0 l s.hp with
 | some b=>match b.str,b.x,b.cs with
   | none, .arr [⟨0,[.int .u8],2048,R⟩,⟨0,[.bool],2048,H⟩],[.int .i64 r, .int .i64 n, .int .i64 f, .bool o]=>if Nat.beq b.ty 132 then some (R,H,r,n,f,o)else none
   | _,_,_=>none
 | none=>none
structure OwnQu(J:Env)(N:Bn)(w:World)(s:Sy.St)(l:Nat)(R H r n f o:Tm):Prop where
 blk:Blk w (N l) 132 (aU0 (u9 J R).c (u9 J H).c (u9 J r).i (u9 J n).i (u9 J f).i (u9 J o).b)
 ok:QuOk (u9 J R).c (u9 J H).c
 bl:∃ b∈s.hp,b.l=l/\b.L4=false
theorem bQ1{J:Env}{N:Bn}{w:World}{s:Sy.St}{l:Nat}{R H r n f o:Tm}(h:bX2 s l=some (R,H,r,n,f,o))(hb:∀ b∈s.hp,BkOk J N w b):OwnQu J N w s l R H r n f o:=by
 unfold bX2 at h;split at h
 .rename_i b hf;obtain⟨hbm,hbl⟩:=U4 hf;split at h
  .rename_i R' H' r' n' f' o' hs hx hcs;split at h
   .rename_i qt;have qe:=af qt;injection h with h;injection h with e1 h;injection h with e2 h;injection h with e3 h;injection h with e4 h;injection h with e5 e6;subst e1 e2 e3 e4 e5 e6;have h1:=hb b hbm;have eb:b=quO l b.rw R' H' r' n' f' o':=by
     obtain⟨bl,bty,bcs,brw,bstr,bx⟩:=b;simp only at hs hx hcs hbl qe;subst hs hx hcs hbl;show(⟨bl,bty,_,brw,none,_⟩:Bk)=⟨bl,132,_,brw,none,_⟩;rw[qe]
    rw[eb]at h1;obtain⟨h2,h3⟩:=aX0.1 h1;exact⟨h2,h3,b,hbm,hbl,by rw[eb];rfl⟩
   .cases h
  .cases h
 .cases h
def dQ1(s:Sy.St):List SV->Option Did
 | [.one (.c (.ptr l 0)), .one (.c (.int .i64 p)), .one (.c (.int .i64 e))]=>match bX2 s l with
   | some (R,H,r,n,f,o)=>some ⟨F9 s.cx (.le i9 p)++(F9 s.cx (.le p L61)++(F9 s.cx (.le i9 e)++F9 s.cx (.le e L61))),[],[],[], .one (.c (.bool (.ap 32 H p e))),[],none⟩
   | none=>none
 | _=>none
def eE2:Sy.Spec:=R4 131 dQ1
theorem di3{J:Env}(hf:∀ x y z,J.f 32 x y z=dB (beh x.c y.i z.i)):eE2.Ok prog J:=by
 refine U1 fun{s xs d} hs hc hm {N w} hb hne=>?_
 unfold dQ1 at hs;split at hs
 .rename_i l p e;split at hs
  .rename_i R H r n f o ho;injection hs with hs;subst hs;have O:=bQ1 (N:=N) (w:=w) ho hb;have m1:=B2 (z0 hc hm.l);have m2:=B2 (z0 hc hm.r.l);have m3:=B2 (z0 hc hm.r.r.l);have m4:=B2 (z0 hc hm.r.r.r);refine⟨fun x hx=>(by cases hx),?_⟩;refine(c56 O.blk O.ok m1 m2 m3 m4).mono ?_;rintro e' w' ⟨v,rfl,rfl,hbel⟩;refine⟨N,?_,Sy.Chg.bd7 hbel⟩;show _=Ending.returned (.bool (J.f 32 (u9 J H) (u9 J p) (u9 J e)).b);rw[hf];rfl
  .cases hs
 .cases hs
def aH6(R:List (List Value))(q:Int):Int:=(aF3 (.int .u8) ((R.getD (q % 2048).toNat []).getD 0 (.bool false))).i
theorem bz5{l:List (List Value)}{i j:Nat}{x:List Value}(h:i<l.length):(l.set i x).getD j []=if i=j then x else l.getD j []:=by
 rw[List.getD,List.getElem?_set];by_cases e:i=j
 .subst e;rw[if_pos rfl,if_pos h,if_pos rfl];rfl
 .rw[if_neg e,if_neg e];rfl
theorem bX6(p:Int):(p % 2048).toNat<2048:=by omega
theorem a32{H:List (List Value)}(hl:H.length=2048)(p q:Int)(b:Bool):X8 (H.set (p % 2048).toNat [.bool b]) q=if p % 2048=q % 2048 then b else X8 H q:=by
 unfold X8;rw[bz5 (by rw[hl];exact bX6 p)];by_cases e:p % 2048=q % 2048
 .rw[if_pos (by rw[e]),if_pos e];rfl
 .rw[if_neg U,if_neg e]
theorem b10{R:List (List Value)}(hl:R.length=2048)(p q b:Int)(h0:0<=b)(h1:b<=255):aH6 (R.set (p % 2048).toNat [.int .u8 b]) q=if p % 2048=q % 2048 then b else aH6 R q:=by
 unfold aH6;rw[bz5 (by rw[hl];exact bX6 p)];by_cases e:p % 2048=q % 2048
 .rw[if_pos (by rw[e]),if_pos e];have hw:=aK2 (cK9 h0 h1);exact aU9 hw.1 hw.2
 .rw[if_neg U,if_neg e]
structure QA where
 at_:Int
 ed:Int
 fin:Int
 body:ByteArray
abbrev RH:=List (List Value) × List (List Value)
def aa9(A:QA)(s:RH)(i:Int):RH:=if X8 s.2 (A.at_+i)then s else(s.1.set ((A.at_+i) % 2048).toNat [.int .u8 (Sy.Y4 A.body i)],s.2.set ((A.at_+i) % 2048).toNat [.bool true])
def aU7(A:QA)(i:Int):Bool:=decide (i<(A.body.size:Int)/\A.at_+i<A.ed/\¬(0<=A.fin/\A.fin<=A.at_+i))
def ab1(A:QA):Nat->Int->RH->RH
 | 0,_,s=>s
 | n+1,i,s=>if aU7 A i then ab1 A n (i+1) (aa9 A s i)else s
theorem bv5{A:QA}{s:RH}(h:QuOk s.1 s.2)(i:Int):QuOk (aa9 A s i).1 (aa9 A s i).2:=by
 unfold aa9;split
 .exact h
 .have:=a90 A.body i;refine⟨by simpa using h.rl,fun r hr=>?_,by simpa using h.hl,fun r hr=>?_⟩
  .rcases List.mem_or_eq_of_mem_set hr with hr|hr
   .exact h.rk r hr
   .rw[hr];exact⟨⟨_,rfl,cK9 this.1 this.2⟩,trivial⟩
  .rcases List.mem_or_eq_of_mem_set hr with hr|hr
   .exact h.hk r hr
   .rw[hr];exact⟨⟨_,rfl⟩,trivial⟩
theorem bQ2{A:QA}:∀{n:Nat} {i:Int} {s:RH},QuOk s.1 s.2->QuOk (ab1 A n i s).1 (ab1 A n i s).2
 | 0,_,_,h=>h
 | n+1,i,s,h=>by
   unfold ab1;split
   .exact bQ2 (bv5 h i)
   .exact h
theorem bX7{A:QA}{W:Int}(hed:A.ed<=W+2048):∀(n:Nat) (i:Int) (s:RH),QuOk s.1 s.2->W<=A.at_+i->(A.body.size:Int) - i<=(n:Int)->0<=i->
 ∀ p,W<=p->p<W+2048->(X8 (ab1 A n i s).2 p=(X8 s.2 p||decide (A.at_+i<=p/\p<A.at_+A.body.size/\p<A.ed/\¬(0<=A.fin/\A.fin<=p))))/\(aH6 (ab1 A n i s).1 p=if X8 s.2 p=false/\(A.at_+i<=p/\p<A.at_+A.body.size/\p<A.ed/\¬(0<=A.fin/\A.fin<=p))then Sy.Y4 A.body (p - A.at_)else aH6 s.1 p)
 | 0,i,s,hs,hw,hn,h0,p,p0,p1=>by
   show(X8 s.2 p=_)/\(aH6 s.1 p=_);rw[aH U,Bool.or_false,if_neg U];exact⟨rfl,rfl⟩
 | n+1,i,s,hs,hw,hn,h0,p,p0,p1=>by
   unfold ab1;by_cases g:aU7 A i=true
   .rw[if_pos g];have g':i<(A.body.size:Int)/\A.at_+i<A.ed/\¬(0<=A.fin/\A.fin<=A.at_+i):=by
     unfold aU7 at g;rwa[aB]at g
    obtain⟨e1,e2⟩:=bX7 hed n (i+1) (aa9 A s i) (bv5 hs i) U U U p p0 p1;have hb:=a90 A.body i;by_cases hp:p=A.at_+i
    .have d1:¬(A.at_+(i+1)<=p/\p<A.at_+A.body.size/\p<A.ed/\¬(0<=A.fin/\A.fin<=p)):=by omega
     have d2:A.at_+i<=p/\p<A.at_+A.body.size/\p<A.ed/\¬(0<=A.fin/\A.fin<=p):=by omega
     rw[e1,e2,aH d1,aD d2,Bool.or_false,Bool.or_true,if_neg (fun h=>d1 h.2)];unfold aa9;by_cases q:X8 s.2 (A.at_+i)=true
     .rw[if_pos q,if_neg (fun h=>by rw[hp,q]at h;exact absurd h.1 bA),hp];exact⟨q,rfl⟩
     .rw[if_neg q,if_pos ⟨by rw[hp];simpa using q,d2⟩,a32 hs.hl,b10 hs.rl _ _ _ hb.1 hb.2,if_pos (by rw[hp]),if_pos (by rw[hp])];exact⟨rfl,by congr 1;omega⟩
    .have ne:A.at_+i<p\/p<A.at_+i:=by omega
     have hmod:A.at_+i<W+2048->¬(A.at_+i) % 2048=p % 2048:=by omega
     have hm:=hmod U;have es:X8 (aa9 A s i).2 p=X8 s.2 p/\aH6 (aa9 A s i).1 p=aH6 s.1 p:=by
      unfold aa9;split
      .exact⟨rfl,rfl⟩
      .rw[a32 hs.hl,b10 hs.rl _ _ _ hb.1 hb.2,if_neg hm,if_neg hm];exact⟨rfl,rfl⟩
     have d:(A.at_+(i+1)<=p/\p<A.at_+A.body.size/\p<A.ed/\¬(0<=A.fin/\A.fin<=p))↔(A.at_+i<=p/\p<A.at_+A.body.size/\p<A.ed/\¬(0<=A.fin/\A.fin<=p)):=by omega
     rw[e1,e2,es.1,es.2];refine⟨by rw[decide_eq_decide.2 d],?_⟩;by_cases c:X8 s.2 p=false/\(A.at_+i<=p/\p<A.at_+A.body.size/\p<A.ed/\¬(0<=A.fin/\A.fin<=p))
     .rw[if_pos c,if_pos ⟨c.1,d.2 c.2⟩]
     .rw[if_neg c,if_neg fun h=>c ⟨h.1,d.1 h.2⟩]
   .rw[if_neg g];have g':¬(i<(A.body.size:Int)/\A.at_+i<A.ed/\¬(0<=A.fin/\A.fin<=A.at_+i)):=by
     unfold aU7 at g;rwa[aB]at g
    have d:¬(A.at_+i<=p/\p<A.at_+A.body.size/\p<A.ed/\¬(0<=A.fin/\A.fin<=p)):=by omega
    rw[aH d,Bool.or_false,if_neg fun h=>d h.2];exact⟨rfl,rfl⟩
def aN2(ed:Int):Nat->Int->List (List Value)->Int × List (List Value)
 | 0,n,H=>(n,H)
 | k+1,n,H=>if n<ed/\X8 H n=true then aN2 ed k (n+1) (H.set (n % 2048).toNat [.bool false])else(n,H)
theorem bF5{ed W:Int}(hed:ed<=W+2048):∀(k:Nat) (n:Int) (H:List (List Value)),H.length=2048->(∀ r∈H,S1 [.bool] r)->W<=n->n<=ed->ed - n<=(k:Int)->
 n<=(aN2 ed k n H).1/\(aN2 ed k n H).1<=ed/\(∀ p,n<=p->p<(aN2 ed k n H).1->X8 H p=true)/\((aN2 ed k n H).1<ed->X8 H (aN2 ed k n H).1=false)/\(aN2 ed k n H).2.length=2048/\(∀ r∈(aN2 ed k n H).2,S1 [.bool] r)/\
 ∀ p,W<=p->p<W+2048->X8 (aN2 ed k n H).2 p=(X8 H p&& !decide (n<=p/\p<(aN2 ed k n H).1))
 | 0,n,H,hl,hk,hw,hn,hf=>by
   show n<=n/\n<=ed/\_/\(n<ed->_)/\H.length=2048/\_/\_;refine⟨aF n,hn,fun p h1 h2=>?_,fun h=>by omega,hl,hk,fun p _ _=>?_⟩
   .have h2:p<n:=h2;omega
   .show X8 H p=(X8 H p&& !decide (n<=p/\p<n));rw[aH U];simp
 | k+1,n,H,hl,hk,hw,hn,hf=>by
   unfold aN2;by_cases c:n<ed/\X8 H n=true
   .rw[if_pos c];have hk':∀ r∈H.set (n % 2048).toNat [.bool false],S1 [.bool] r:=fun r hr=>by
     rcases List.mem_or_eq_of_mem_set hr with hr|hr
     .exact hk r hr
     .rw[hr];exact⟨⟨_,rfl⟩,trivial⟩
    obtain⟨i1,i2,i3,i4,i5,i6,i7⟩:=bF5 hed k (n+1) (H.set (n % 2048).toNat [.bool false]) (by simpa using hl) hk' U U U;refine⟨by omega,i2,fun p h1 h2=>?_,fun h=>?_,i5,i6,fun p p0 p1=>?_⟩
    .by_cases e:p=n
     .rw[e];exact c.2
     .have:=i3 p U h2;rwa[a32 hl,if_neg U]at this
    .have:=i4 h;rwa[a32 hl,if_neg U]at this
    .rw[i7 p p0 p1,a32 hl];by_cases e:p=n
     .rw[e,if_pos rfl,aD (p:=n<=n/\_) ⟨aF n,by omega⟩];simp
     .rw[if_neg U];congr 2;exact decide_eq_decide.2 U
   .rw[if_neg c];refine⟨aF n,hn,fun p h1 h2=>?_,fun h=>?_,hl,hk,fun p _ _=>?_⟩
    .have h2:p<n:=h2;omega
    .show X8 H n=false;have h:n<ed:=h;cases q:X8 H n with
     | false=>rfl
     | true=>exact absurd ⟨h,q⟩ c
    .show X8 H p=(X8 H p&& !decide (n<=p/\p<n));rw[aH U];simp
end Go.Proofs.YtnlcpcmdlcakgaaGreat
