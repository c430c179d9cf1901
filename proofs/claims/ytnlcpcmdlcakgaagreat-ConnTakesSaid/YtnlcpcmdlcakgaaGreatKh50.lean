/- A part of the proof that a connection answers as the document says: Ch9. -/
import Derived.Test.YtnlcpcmdlcakgaaGreatKh48
set_option maxRecDepth 100000
set_option maxHeartbeats 4000000
set_option linter.unusedVariables false
set_option linter.unusedSimpArgs false
set_option linter.unusedSectionVars false
open Go.Proofs.Tryz
namespace Go.Proofs.YtnlcpcmdlcakgaaGreat
open Go.RowKit Sy
def a66:List Leaf:=[(some (some .u32)),(some (some .i64)),(some (some .u32)),(some (some .i64)),(some (some .u32)),(some (some .u32)),(some none),(some none),(some none),(some none),(some (some .i64)),(some (some .i64)),none]
theorem dV5{l:List Value}(h:T5 a66 l):∃ s:Sg,l=[.int .u32 s.fa, .int .i64 s.fp, .int .u32 s.ta, .int .i64 s.tp, .int .u32 s.sq, .int .u32 s.ak, .bool s.syn, .bool s.hak, .bool s.fin, .bool s.rst, .int .i64 s.win, .int .i64 s.mss, .string s.body]/\SgAny s:=by
 unfold a66 at h;rcases l with _|⟨v0,l⟩
 .exact h.elim
 obtain⟨⟨x0,rfl,q0⟩,h⟩:=h;rcases l with _|⟨v1,l⟩
 .exact h.elim
 obtain⟨⟨x1,rfl,q1⟩,h⟩:=h;rcases l with _|⟨v2,l⟩
 .exact h.elim
 obtain⟨⟨x2,rfl,q2⟩,h⟩:=h;rcases l with _|⟨v3,l⟩
 .exact h.elim
 obtain⟨⟨x3,rfl,q3⟩,h⟩:=h;rcases l with _|⟨v4,l⟩
 .exact h.elim
 obtain⟨⟨x4,rfl,q4⟩,h⟩:=h;rcases l with _|⟨v5,l⟩
 .exact h.elim
 obtain⟨⟨x5,rfl,q5⟩,h⟩:=h;rcases l with _|⟨v6,l⟩
 .exact h.elim
 obtain⟨⟨y0,rfl⟩,h⟩:=h;rcases l with _|⟨v7,l⟩
 .exact h.elim
 obtain⟨⟨y1,rfl⟩,h⟩:=h;rcases l with _|⟨v8,l⟩
 .exact h.elim
 obtain⟨⟨y2,rfl⟩,h⟩:=h;rcases l with _|⟨v9,l⟩
 .exact h.elim
 obtain⟨⟨y3,rfl⟩,h⟩:=h;rcases l with _|⟨v10,l⟩
 .exact h.elim
 obtain⟨⟨x6,rfl,q6⟩,h⟩:=h;rcases l with _|⟨v11,l⟩
 .exact h.elim
 obtain⟨⟨x7,rfl,q7⟩,h⟩:=h;rcases l with _|⟨v12,l⟩
 .exact h.elim
 obtain⟨⟨z,rfl,q8⟩,h⟩:=h;rcases l with _|⟨v13,l⟩
 .exact⟨⟨x0,x1,x2,x3,x4,x5,y0,y1,y2,y3,x6,x7,z⟩,rfl,aK2 q0,aK2 q1,aK2 q2,aK2 q3,aK2 q4,aK2 q5,aK2 q6,aK2 q7,q8⟩
 .exact h.elim
theorem cu4{s:Sg}(h:Cn.err s=0)(hs:s.syn=true):s.fin=false/\s.rst=false/\1<=s.fp/\s.fp<=65535:=by
 unfold Cn.err ao3 at h;split at h
 .cases h
 .rename_i q;split at h
  .cases h
  .rename_i r;rw[hs]at r;refine⟨?_,?_,by omega,by omega⟩
   .cases e:s.fin with
    | false=>rfl
    | true=>exact absurd (.inr (.inl ⟨rfl,by rw[e];rfl⟩)) r
   .cases e:s.rst with
    | false=>rfl
    | true=>exact absurd (.inr (.inr (.inl ⟨rfl,by rw[e];rfl⟩))) r
theorem dT4{la lp iss own:Int}{s:Sg}(h0:0<=la/\la<=4294967295)(h1:1<=lp/\lp<=65535)(h6:0<=iss/\iss<=4294967295)(h8:8<=own/\own<=1000)(hs:SgIn s)(hp:1<=s.fp/\s.fp<=65535):Iv ⟨(aY9 la lp s.fa s.fp iss own 2).syn s,[],[]⟩ 0:=by
 have hn:=ch4 h0 h1 hs.h0 hp h6 h8;have hr:RgX (aY9 la lp s.fa s.fp iss own 2):= { hn.r with r4:=(by decide:(0:Int)<=2/\(2:Int)<=9) };exact⟨bV8 hr hs,⟨fun h=>absurd (show(2:Int)=1 from h) bA,fun _ _=>rfl,fun _=>rfl⟩,fun h=>bF,hn.a,hn.R,hn.sm,hn.left⟩
def KT:Lk:=⟨107,4,15,17,81,82,83,85,86,20,[1,1,1,1,1,1,0]⟩
theorem cy9:SaysCode prog f4 KT.p (lkT KT) 0 200 KT.x0 KT.vx KT.vl KT.vi KT.d1 KT.d2 KT.d3 where
 rg4:=⟨Sy.aP1 (Sy.I9 (KT.p++[0]) (y7 f4)) 0,Sy.aP1 (Sy.I9 (KT.p++[0]) (y7 f4)) 1,Sy.aP1 (Sy.I9 (KT.p++[0]) (y7 f4)) 2,by kernel_rfl,⟨by kernel_rfl,by kernel_rfl,by kernel_rfl⟩,⟨by kernel_rfl,by kernel_rfl,by kernel_rfl⟩,⟨by kernel_rfl,by kernel_rfl,by kernel_rfl⟩⟩
 at_:=by kernel_rfl
 hd:=by kernel_rfl
 row:=⟨Sy.aP1 (Sy.I9 aP0 (aF9 f4 KT.p)) 0,Sy.aP1 (Sy.I9 aP0 (aF9 f4 KT.p)) 1,Sy.aP1 (Sy.I9 aP0 (aF9 f4 KT.p)) 2,Sy.aP1 (Sy.I9 aP0 (aF9 f4 KT.p)) 3,by kernel_rfl,⟨by kernel_rfl,by kernel_rfl,by kernel_rfl⟩,⟨by kernel_rfl,by kernel_rfl,by kernel_rfl⟩,⟨by kernel_rfl,by kernel_rfl,by kernel_rfl⟩,⟨by kernel_rfl,by kernel_rfl,by kernel_rfl⟩⟩
 lo1:=by kernel_rfl
 any1:=by kernel_rfl
 tx:=by kernel_rfl
 ti:=by kernel_rfl
 hnr:=by decide
 free:=by kernel_rfl
 e1:=by kernel_rfl
 e2:=by kernel_rfl
 e3:=by kernel_rfl
 e4:=by kernel_rfl
 out:=by kernel_rfl
 uS:=underlying25
 uE:=⟨_,underlying44,rfl⟩
 inf:=bm2
 zero:=by kernel_rfl
 zlen:=by kernel_rfl
theorem eA5:LkOk f4 KT where
 code:=cy9
 in_:=by kernel_rfl
 tm:=by kernel_rfl
 okP:=by kernel_rfl
 op:=by kernel_rfl
 low:=by kernel_rfl
 fin:=by kernel_rfl
 ne:=by decide
 end_:=fun has=>by cases has<;>kernel_rfl
def tA:List SV:=[.one (.agg [.int .u32 (.iv 16), .int .i64 (.iv 17)]), .one (.agg W9), .one (.c (.int .u32 (.iv 18))), .one (.c (.int .i64 (.iv 19))), .one (.c (.opq 0))]
def tB(a b e f m0 m1 l:Int):List Bd:=[⟨.iv 16,0,4294967295⟩,⟨.iv 17,a,b⟩,⟨.iv 18,0,4294967295⟩,⟨.iv 19,e,f⟩,⟨.iv 0,0,4294967295⟩,⟨.iv 1,miI,maI⟩,⟨.iv 2,0,4294967295⟩,⟨.iv 3,miI,maI⟩,⟨.iv 4,0,4294967295⟩,⟨.iv 5,0,4294967295⟩,⟨.iv 6,miI,maI⟩,⟨.iv 7,m0,m1⟩,⟨.len l7,0,l⟩]
def tEa:Tm:= .and (.eq m9 (.iv 16)) (.eq n7 (.iv 17))
def tO:Tm:= .eq qa1 i9
def tS:List Sy.Spec:=[cQ7,bx5,bw3,a41,bg4,be9,bO7,bh4,bh8,bO9,bP6]
def a63(P:Program)(fn:Func)(cx:Cx):Rs:=R6 P tS 10 400 40 (.code (pre KT.p (y7 fn))) (L3 fn tA ⟨[],[],cx,40⟩)
def tN(a b e f:Int):Cx:=⟨tB a b e f miI maI maI,[.not tO]⟩
def tY(a b e f:Int)(l:List Tm):Cx:=⟨tB a b e f miI maI 1000,l++[tO]⟩
def aq4(P:Program)(fn:Func)(cx:Cx):Bool:=bZ5 P fn (a63 P fn cx)
theorem eX6:aq4 prog f4 (tN miI 0 miI maI)=true:=by kernel_rfl
theorem eX5:aq4 prog f4 (tN 65536 maI miI maI)=true:=by kernel_rfl
theorem eX4:aq4 prog f4 (tN miI maI miI 7)=true:=by kernel_rfl
theorem eX3:aq4 prog f4 (tN miI maI 1001 maI)=true:=by kernel_rfl
theorem eX2:aq4 prog f4 (tN 1 65535 8 1000)=true:=by kernel_rfl
theorem eX1:aq4 prog f4 (tY miI 0 miI maI [])=true:=by kernel_rfl
theorem eX0:aq4 prog f4 (tY 65536 maI miI maI [])=true:=by kernel_rfl
theorem eW9:aq4 prog f4 (tY miI maI miI 7 [])=true:=by kernel_rfl
theorem eW8:aq4 prog f4 (tY miI maI 1001 maI [])=true:=by kernel_rfl
theorem eW7:aq4 prog f4 (tY 1 65535 8 1000 [.not tEa])=true:=by kernel_rfl
theorem eN6:aq4 prog f4 (tY 1 65535 8 1000 [.not o9,tEa])=true:=by kernel_rfl
theorem eN5:aq4 prog f4 (tY 1 65535 8 1000 [.bv 1, .bv 0,tEa])=true:=by kernel_rfl
def mnT(x:Tm):Tm:= .ite (.lt x (.iv 19)) x (.iv 19)
def mxP(x:Tm):Tm:= .ite (.lt (mnT x) (.il 8)) (.il 8) (mnT x)
def mxD(x:Tm):Tm:= .ite (.lt (.il 8) (mnT x)) (mnT x) (.il 8)
def tGl:List Tm:=[.le (.il 8) (mxP o8), .le (mxP o8) (.il 1000), .le (.il 8) (mxD o8), .le (mxD o8) (.il 1000), .not (.bv 2), .not (.bv 3), .not (.bv 1), .bv 0,tEa,tO]
def tG(m0 m1:Int):Cx:=⟨tB 1 65535 8 1000 m0 m1 1000,tGl⟩
theorem dU7:shR 40 none (a63 prog f4 (tG 0 0))=some [.out 0 .normal tGl]:=by kernel_rfl
theorem dU6:shR 40 none (a63 prog f4 (tG 1 65535))=some [.out 0 .normal tGl]:=by kernel_rfl
def tTs(m y:Tm):List Tm:=[.iv 16, .iv 17, .iv 0, .iv 1, .il 2, .il 0, .iv 18, .iv 4, .iv 19,m, .iv 6, .il 0, .il 0, .il 0, .il (-1), .il 0, .il 0, .il 0, .bl false, .bl false, .bl false, .il 0, .il 0, .bl false, .il 0, .il 0, .il 0, .sl [], .bl true, .il 1, .il 0, .il (-1), .il 0, .il 0,m, .mul u0 m, .il 65535,y]
def tSt(s:Sy.St)(m1 m2:Tm):Prop:=(cL2 s KT,bP5 (crP ⟨[],s.hp,s.cx,s.nx⟩ 130),bP5 (crD ⟨[],s.hp,s.cx,s.nx⟩ 200))=((107,some (.one (.c (.opq 0))),some (.one (.c (.ptr 130 0))),some (.one (.c (.ptr 200 0)))),some (tTs m1 (.ap 90 (.il 37) (.iv 16) i9),tn,tn,true,[],[134,136,174,176]),some (tTs m2 i9,tn,tn,true,[],[204,242,272]))
theorem eN4:tSt (I1 (a63 prog f4 (tG 0 0)) 0) (mnT (.il 536)) (mxD (.il 536)):=by
 unfold tSt;kernel_rfl
theorem eN3:tSt (I1 (a63 prog f4 (tG 1 65535)) 0) (mxP o8) (mxD o8):=by
 unfold tSt;kernel_rfl
def aZ1(la lp iss own:Int)(s:Sg)(v:Value):Env:= { U9 [s.fa,s.fp,s.ta,s.tp,s.sq,s.ak,s.win,s.mss,0,0,0,0,0,0,0,0,la,lp,iss,own] [s.syn,s.hak,s.fin,s.rst] [s.body] [v]with f:=cnF,o:=cnO,c:=fun _=>[K9 (aY9 0 0 0 0 0 0 0)] }
theorem cO1{la lp iss own:Int}{s:Sg}{v:Value}(x:Tm):(u9 (aZ1 la lp iss own s v) (mnT x)).i=min (u9 (aZ1 la lp iss own s v) x).i own:=by
 unfold mnT;rw[ai1];rfl
theorem dM0{la lp iss own:Int}{s:Sg}{v:Value}(x:Tm):(u9 (aZ1 la lp iss own s v) (mxP x)).i=max (min (u9 (aZ1 la lp iss own s v) x).i own) 8:=by
 unfold mxP;rw[ae3,cO1];rfl
theorem cO0{la lp iss own:Int}{s:Sg}{v:Value}(x:Tm):(u9 (aZ1 la lp iss own s v) (mxD x)).i=max 8 (min (u9 (aZ1 la lp iss own s v) x).i own):=by
 unfold mxD;rw[ae3,cO1];rfl
theorem dt0{w:World}{a:Option Addr}{len cap:Nat}(o:Opened V3 w a len cap)(hl:len<=549755813888){la lp iss own:Int}{s:Sg}(h0:0<=la/\la<=4294967295)(h1:1<=lp/\lp<=65535)(h6:0<=iss/\iss<=4294967295)(h8:8<=own/\own<=1000)(hs:SgIn s)(hp:1<=s.fp/\s.fp<=65535)
 {st:Sy.St} {m1 m2:Tm} (hst:tSt st m1 m2) (e1:(u9 (aZ1 la lp iss own s (.slice a len cap)) m1).i=(aY9 la lp s.fa s.fp iss own 2).aS7 s) (e2:(u9 (aZ1 la lp iss own s (.slice a len cap)) m2).i=(aY9 la lp s.fa s.fp iss own 2).aS7 s) {N0 N:Bn} {n0:Nat} {ac:Act} {w1:World}
 (hM:Md (aZ1 la lp iss own s (.slice a len cap)) (fun _=>False) w N0 n0 st N ac w1):(Sy.I9 KT.p (y7 f4)).wp prog (Y7 prog KT.p (y7 f4) (bodyPost prog f4 (F7 fun v w'=>v= .bool true/\Below w.heap.size w w'))) ac w1:=by
 unfold tSt at hst;simp only[Prod.mk.injEq]at hst;obtain⟨q1,q2,q3⟩:=hst;have key:∀ m y:Tm,(u9 (aZ1 la lp iss own s (.slice a len cap)) m).i=(aY9 la lp s.fa s.fp iss own 2).aS7 s->cnT (aZ1 la lp iss own s (.slice a len cap)) (tTs m y)= { (aY9 la lp s.fa s.fp iss own 2).syn s with bg:=(u9 (aZ1 la lp iss own s (.slice a len cap)) y).i }:=fun m y e=>by
  show({ (aY9 la lp s.fa s.fp iss own 2).syn s with mss:=(u9 (aZ1 la lp iss own s (.slice a len cap)) m).i,cm:=(u9 (aZ1 la lp iss own s (.slice a len cap)) m).i,cz:=2*(u9 (aZ1 la lp iss own s (.slice a len cap)) m).i,bg:=(u9 (aZ1 la lp iss own s (.slice a len cap)) y).i }:Cn)=_;rw[e];rfl
 refine by6 eA5 o hl rfl rfl hM (lc:=130) (ld:=200) q1 q2 q3 bA (X:=⟨(aY9 la lp s.fa s.fp iss own 2).syn s,[],[]⟩) (dT4 h0 h1 h6 h8 hs hp) rfl (fun W=>?_) (fun W=>?_)
 .rw[key _ _ e1]at W;exact W.cZ7 (fun n=>rfl) rfl ⟨rfl,rfl,rfl⟩ rfl (fun _=>⟨rfl,rfl,rfl⟩) (fun _=>⟨rfl,rfl,rfl⟩) rfl
 .rw[key _ _ e2]at W;exact W.ca2 (fun n=>rfl) ⟨rfl,rfl,rfl⟩ rfl (fun _=>⟨rfl,rfl,rfl⟩) (fun _=>⟨rfl,rfl,rfl⟩) rfl
theorem be5(w:World)(c0 c1:Array Value)(iss own:Int)(a:Option Addr)(len cap:Nat)(l0:T5 aZ6 c0.toList)(l1:T5 a66 c1.toList)(i0:0<=iss)(i1:iss<=4294967295)(m0: -9223372036854775808<=own)(m1:own<=9223372036854775807)(o:Opened V3 w a len cap)(hl:len<=549755813888):
 Calls prog 4 #[.agg c0, .agg c1, .int .u32 iss, .int .i64 own, .slice a len cap] w fun e w'=>e= .returned (.bool true)/\Below w.heap.size w w':=by
 obtain⟨c0⟩:=c0;obtain⟨c1⟩:=c1;obtain⟨la,lp,rfl,h0,h1⟩:=bQ9 l0;obtain⟨s,rfl,hs⟩:=dV5 l1;obtain⟨J,hJ⟩:∃ x,aZ1 la lp iss own s (.slice a len cap)=x:=⟨_,rfl⟩;have hg:J.R8:=fun i=>by rw[<-hJ];rcases i with _|i<;>rfl
 have hE:CnEnv J:=by rw[<-hJ];exact⟨fun i=>(by rcases i with _|i<;>rfl),rfl,rfl,⟨aY9 0 0 0 0 0 0 0,rfl⟩⟩
 have hsp:∀ q∈tS,q.Ok prog J:=by
  intro q hq;unfold tS at hq;simp only[aa,aY,or_false]at hq;rcases hq with rfl|rfl|rfl|rfl|rfl|rfl|rfl|rfl|rfl|rfl|rfl
  .exact b08 hE
  .exact bm8 hE
  .exact bm6 hE.g
  .exact a94
  .exact bX4 hE.o
  .exact bV5 hE.o
  .exact bM9 hE.o
  .exact bY0 hE.o
  .exact bY8
  .exact bN1 hE.o
  .exact bN3
 have hbs:∀{x y e f m n l:Int},x<=lp/\lp<=y->e<=own/\own<=f->m<=s.mss/\s.mss<=n->(s.body.size:Int)<=l->X5 J (tB x y e f m n l):=fun q1 q2 q3 q4=>by
  rw[<-hJ];exact Z6 ⟨h0,q1,⟨i0,i1⟩,q2,hs.h0,hs.h1,hs.h2,hs.h3,hs.h4,hs.h5,hs.h6,q3,⟨Int.natCast_nonneg _,q4⟩,trivial⟩
 have bad:∀ cx,bZ5 prog f4 (a63 prog f4 cx)=true->cx.ok J->Calls prog 4 #[.agg [.int .u32 la, .int .i64 lp].toArray, .agg [.int .u32 s.fa, .int .i64 s.fp, .int .u32 s.ta, .int .i64 s.tp, .int .u32 s.sq, .int .u32 s.ak, .bool s.syn, .bool s.hak, .bool s.fin, .bool s.rst, .int .i64 s.win, .int .i64 s.mss, .string s.body].toArray, .int .u32 iss, .int .i64 own, .slice a len cap] w fun e w'=>e= .returned (.bool true)/\Below w.heap.size w w':=fun cx hm hc=>by
  refine(bn5 hg hsp func4 rfl (p:=KT.p) (xs:=tA) hm hc (by rw[<-hJ];rfl)).mono ?_;rintro e w' ⟨v,rfl,rfl,hb⟩;exact⟨rfl,hb⟩
 have any1:miI<=lp/\lp<=maI:=h1;have any5:miI<=own/\own<=maI:=⟨m0,m1⟩;have any7:miI<=s.mss/\s.mss<=maI:=hs.h7;have hsz:(s.body.size:Int)<=maI:=by have:=hs.h8;unfold maI;omega
 have eO:((u9 J tO).b=true)=(Cn.err s=0):=by rw[<-hJ];unfold tO;rw[A9];rfl
 have eA:((u9 J tEa).b=true)=(s.ta=la/\s.tp=lp):=by rw[<-hJ];unfold tEa;rw[F4,A9,A9];rfl
 by_cases hz:Cn.err s=0
 case neg=>
  have okN:∀{x y e f:Int},x<=lp/\lp<=y->e<=own/\own<=f->(tN x y e f).ok J:=fun q1 q2=>⟨hbs q1 q2 any7 hsz,fun t ht=>by rw[ah.1 ht,y9,eO];exact hz⟩
  by_cases b1:lp<=0
  .exact bad _ eX6 (okN ⟨any1.1,b1⟩ any5)
  by_cases b2:65536<=lp
  .exact bad _ eX5 (okN ⟨b2,any1.2⟩ any5)
  by_cases b3:own<=7
  .exact bad _ eX4 (okN any1 ⟨any5.1,b3⟩)
  by_cases b4:1001<=own
  .exact bad _ eX3 (okN any1 ⟨b4,any5.2⟩)
  exact bad _ eX2 (okN U U)
 have hin:=cP4 hs hz;have hlen:(s.body.size:Int)<=1000:=by have:=hin.h8;omega
 have okY:∀{x y e f:Int} {l:List Tm},x<=lp/\lp<=y->e<=own/\own<=f->(∀ t∈l,(u9 J t).b=true)->(tY x y e f l).ok J:=fun q1 q2 q3=>⟨hbs q1 q2 any7 hlen,fun t ht=>(aC.1 ht).elim (q3 t) fun q=>by rw[ah.1 q,eO];exact hz⟩
 have nil:∀ t∈([]:List Tm),(u9 J t).b=true:=fun t ht=>by cases ht
 by_cases b1:lp<=0
 .exact bad _ eX1 (okY ⟨any1.1,b1⟩ any5 nil)
 by_cases b2:65536<=lp
 .exact bad _ eX0 (okY ⟨b2,any1.2⟩ any5 nil)
 by_cases b3:own<=7
 .exact bad _ eW9 (okY any1 ⟨any5.1,b3⟩ nil)
 by_cases b4:1001<=own
 .exact bad _ eW8 (okY any1 ⟨b4,any5.2⟩ nil)
 have g1:1<=lp/\lp<=65535:=by omega
 have g5:8<=own/\own<=1000:=by omega
 by_cases b5:s.ta=la/\s.tp=lp
 case neg=>exact bad _ eW7 (okY g1 g5 fun t ht=>by rw[ah.1 ht,y9,eA];exact b5)
 have hA:(u9 J tEa).b=true:=by rw[eA];exact b5
 have e0:(u9 J o9).b=s.syn:=by rw[<-hJ];rfl
 have e1:(u9 J (.bv 1)).b=s.hak:=by rw[<-hJ];rfl
 have e2:(u9 J (.bv 2)).b=s.fin:=by rw[<-hJ];rfl
 have e3:(u9 J (.bv 3)).b=s.rst:=by rw[<-hJ];rfl
 by_cases hy:s.syn=true
 case neg=>exact bad _ eN6 (okY g1 g5 fun t ht=>by
  rcases aa.1 ht with rfl|ht
  .rw[y9,e0];exact hy
  .rw[ah.1 ht];exact hA)
 by_cases hk:s.hak=true
 .exact bad _ eN5 (okY g1 g5 fun t ht=>by
   rcases aa.1 ht with rfl|ht
   .rw[e1];exact hk
   rcases aa.1 ht with rfl|ht
   .rw[e0];exact hy
   .rw[ah.1 ht];exact hA)
 ··
   obtain⟨hf,hr,hp0,hp1⟩:=cu4 hz hy;have pcs:∀ t∈tGl,(u9 J t).b=true:=fun t ht=>by
    have p1:(u9 J (mxP o8)).i=max (min s.mss own) 8:=by rw[<-hJ];exact dM0 _
    have p2:(u9 J (mxD o8)).i=max 8 (min s.mss own):=by rw[<-hJ];exact cO0 _
    have i8:(u9 J (.il 8)).i=8:=rfl;have ik:(u9 J (.il 1000)).i=1000:=rfl;unfold tGl at ht;simp only[aa,aY,or_false]at ht;rcases ht with rfl|rfl|rfl|rfl|rfl|rfl|rfl|rfl|rfl|rfl
    .rw[E5,p1,i8];omega
    .rw[E5,p1,ik];omega
    .rw[E5,p2,i8];omega
    .rw[E5,p2,ik];omega
    .rw[y9,e2,hf];decide
    .rw[y9,e3,hr];decide
    .rw[y9,e1];exact hk
    .rw[e0];exact hy
    .exact hA
    .rw[eO];exact hz
   have go:∀{m n:Int} {x1 x2:Tm},m<=s.mss/\s.mss<=n->shR 40 none (a63 prog f4 (tG m n))=some [.out 0 .normal tGl]->tSt (I1 (a63 prog f4 (tG m n)) 0) x1 x2->(u9 J x1).i=(aY9 la lp s.fa s.fp iss own 2).aS7 s->(u9 J x2).i=(aY9 la lp s.fa s.fp iss own 2).aS7 s->
    Calls prog 4 #[.agg [.int .u32 la, .int .i64 lp].toArray, .agg [.int .u32 s.fa, .int .i64 s.fp, .int .u32 s.ta, .int .i64 s.tp, .int .u32 s.sq, .int .u32 s.ak, .bool s.syn, .bool s.hak, .bool s.fin, .bool s.rst, .int .i64 s.win, .int .i64 s.mss, .string s.body].toArray, .int .u32 iss, .int .i64 own, .slice a len cap] w fun e w'=>e= .returned (.bool true)/\Below w.heap.size w w':=fun hm hrun hst x1 x2=>by
    have hM:Md J (fun _=>False) w (fun _=>0) 40 ⟨[],[],tG _ _,40⟩ (fun _=>0) ⟨#[],[]⟩ w:=Sy.Md.ax8 trivial trivial trivial ⟨hbs g1 g5 hm hlen,pcs⟩ rfl;refine(aH2 (B:=⟨J,fun _=>False,w,fun _=>0,40⟩) (sp:=tS) (p:=KT.p) (xs:=tA) (s:=⟨[],[],tG _ _,40⟩) (r:=a63 prog f4 (tG _ _)) hg hsp rfl func4 rfl rfl hrun hM (R:=fun v w'=>v= .bool true/\Below w.heap.size w w') ⟨?_,trivial⟩ (by rw[<-hJ];rfl)).mono ?_
    .intro _ N ac w1 hM1;rw[<-hJ]at hM1 x1 x2;exact dt0 o hl h0 g1 ⟨i0,i1⟩ g5 hin ⟨hp0,hp1⟩ hst x1 x2 hM1
    .rintro e w' ⟨v,rfl,rfl,hb⟩;exact⟨rfl,hb⟩
   have r7:=hin.h7;by_cases b7:s.mss=0
   .refine go U dU7 eN4 ?_ ?_
    .rw[<-hJ,cO1];show min 536 own=max 8 (min own (if s.mss=0 then 536 else s.mss));rw[if_pos b7];omega
    .rw[<-hJ,cO0];show max 8 (min 536 own)=max 8 (min own (if s.mss=0 then 536 else s.mss));rw[if_pos b7];omega
   .refine go U dU6 eN3 ?_ ?_
    .rw[<-hJ,dM0];show max (min s.mss own) 8=max 8 (min own (if s.mss=0 then 536 else s.mss));rw[if_neg b7];omega
    .rw[<-hJ,cO0];show max 8 (min s.mss own)=max 8 (min own (if s.mss=0 then 536 else s.mss));rw[if_neg b7];omega
end Go.Proofs.YtnlcpcmdlcakgaaGreat
