/- A part of the proof that a connection answers as the document says: Ch3 Cf7 Ch4 Lc SliceSz. -/
import Derived.Test.YtnlcpcmdlcakgaaGreatKh38
import Derived.Test.YtnlcpcmdlcakgaaGreatKh45
set_option maxRecDepth 100000
set_option maxHeartbeats 4000000
set_option linter.unusedVariables false
set_option linter.unusedSimpArgs false
set_option linter.unusedSectionVars false
open Go.Proofs.Tryz
namespace Go.Proofs.YtnlcpcmdlcakgaaGreat
open Go.RowKit Sy
structure Iv(X:Cs)(k:Int):Prop where
 r:RgX X.c
 s:StX X.c
 u:X.c.has=false->X.c.una=0
 a:(X.c.all.size:Int)<=2048*k
 R:(X.R.length:Int)<=k
 sm:X.c.same<=k
 left:X.c.aS8<=2048
namespace Cn
def Est(c:Cn):Prop:=¬c.st=1/\c.has=true/\c.why=0
structure Kq(n:Int)(c d:Cn):Prop where
 all:d.all=c.all
 una:c.una<=d.una
 same:d.same<=c.same+n
 est:c.Est->d.Est
theorem Kq.cA8(c:Cn):Kq 0 c c:=⟨rfl,aF _,by omega,id⟩
theorem Kq.bv3{m n:Int}{a b c:Cn}(h:Kq m a b)(g:Kq n b c):Kq (m+n) a c:=⟨g.all.trans h.all,bw h.una g.una,by have:=h.same;have:=g.same;omega,fun q=>g.est (h.est q)⟩
theorem ee8(c:Cn):Kq 0 c c.up:=by
 unfold up;split
 .refine⟨rfl,aF _,by show c.same<=c.same+0;omega,fun h=>⟨?_,h.2⟩⟩;show ¬(if c.shut=true then(4:Int)else 3)=1;split<;>decide
 .exact Kq.cA8 c
theorem cK8(c:Cn)(a:Int)(h:0<=c.same):Kq 0 c (c.V7 a):=by
 have hu:c.una<=(c.ou.ack a).una:=by
  unfold Ou.ack Cn.ou;simp only;split
  .exact aF _
  .simp only;omega
 rw[aZ7];split<;>exact⟨rfl,hu,by show(0:Int)<=c.same+0;omega,id⟩
theorem eV2(c:Cn):Kq 1 c c.dup:=by
 unfold dup;split<;>exact⟨rfl,aF _,by show c.same+1<=c.same+1;omega,id⟩
theorem eM0(c:Cn)(s:Sg)(a b u:Int):Kq 0 c (c.ag6 s a b u):=by
 unfold ag6;split
 .exact⟨rfl,aF _,by show c.same<=c.same+0;omega,id⟩
 .exact Kq.cA8 c
theorem eL9(c:Cn):Kq 0 c c.aJ0:=by
 unfold aJ0
 (repeat' split)<;>first|exact Kq.cA8 c|exact⟨rfl,aF _,by show c.same<=c.same+0;omega,fun h=>⟨by(first|(show ¬(9:Int)=1;decide)|(show ¬(0:Int)=1;decide)|(show ¬(5:Int)=1;decide)|(show ¬(6:Int)=1;decide)|(show ¬(7:Int)=1;decide)|(show ¬(4:Int)=1;decide)|(show ¬(3:Int)=1;decide)|(show ¬(8:Int)=1;decide)|(show ¬(2:Int)=1;decide)),h.2⟩⟩
theorem eL8(c:Cn)(s:Sg)(at_:Int)(h:0<=c.same):Kq 1 c (c.Z4 s at_):=by
 have hu:=ee8 c;have eu:c.up.same=c.same:=(be7 c).2.2.1;have wide:∀{d:Cn},Kq 0 c d->Kq 1 c d:=fun q=>⟨q.all,q.una,by have:=q.same;omega,q.est⟩
 unfold Z4;split
 .exact wide (Kq.cA8 c)
 .split
  .exact wide ⟨hu.all,hu.una,hu.same,hu.est⟩
  .have h2:Kq 1 c.up (c.up.ag7 s (c.B5 s)):=by
    unfold ag7;split
    .have:=cK8 c.up (c.B5 s) U;exact⟨this.all,this.una,by have:=this.same;omega,this.est⟩
    .split
     .exact eV2 _
     .exact⟨rfl,aF _,by omega,id⟩
   have:Kq (0+1+0+0) c (c.aW9 s at_).aJ0:=((hu.bv3 h2).bv3 (eM0 _ s (c.B5 s) at_ c.una)).bv3 (eL9 _);exact⟨this.all,this.una,by have:=this.same;omega,this.est⟩
theorem dr2(c:Cn)(L:Rws)(s:Sg)(at_:Int):Kq 0 c (c.aA5 L s at_):=by
 unfold aA5 bl8
 (repeat' split)<;>exact⟨rfl,aF _,by show c.same<=c.same+0;omega,fun h=>⟨by first|exact h.1|(first|(show ¬(9:Int)=1;decide)|(show ¬(0:Int)=1;decide)|(show ¬(5:Int)=1;decide)|(show ¬(6:Int)=1;decide)|(show ¬(7:Int)=1;decide)|(show ¬(4:Int)=1;decide)|(show ¬(3:Int)=1;decide)|(show ¬(8:Int)=1;decide)|(show ¬(2:Int)=1;decide)),h.2⟩⟩
theorem dr4(c:Cn)(s:Sg):Kq 0 c (c.aj8 s):=by
 unfold aj8;split<;>exact⟨rfl,aF _,by show c.same<=c.same+0;omega,id⟩
theorem eL5(c:Cn):c.F6.all=c.all/\c.F6.una=c.una/\c.F6.same=c.same/\c.F6.st=c.st/\c.F6.has=c.has/\c.F6.why=c.why/\c.F6.shut=c.shut:=by
 unfold F6
 (repeat' split)<;>exact⟨rfl,rfl,rfl,rfl,rfl,rfl,rfl⟩
theorem dr5{c d:Cn}(h1:d.all=c.all)(h2:c.una<=d.una):d.aS8<=c.aS8:=by
 unfold aS8;rw[h1];omega
end Cn
theorem Cn.Est.st{c:Cn}(h:c.Est):StX c:=⟨fun q=>absurd q h.1,fun _ _=>h.2.1,fun _=>h.2.2⟩
theorem StX.bD1{c d:Cn}(h:StX c)(e1:d.st=c.st)(e2:d.has=c.has)(e3:d.why=c.why):StX d:=⟨fun q=>e2.trans (h.one (e1 ▸ q)),fun q1 q2=>e2.trans (h.two (e1 ▸ q1) (e1 ▸ q2)),fun q=>e3.trans (h.why (e1 ▸ q))⟩
theorem StX.bT9{d:Cn}(e:d.st=0):StX d:=⟨fun q=>(by rw[e]at q;cases q),fun q _=>absurd e q,fun q=>absurd e q⟩
theorem StX.est{c:Cn}(h:StX c)(h0:¬c.st=0)(h1:¬c.st=1):c.Est:=⟨h1,h.two h0 h1,h.why h0⟩
theorem Iv.ar6{c:Cn}{L:Rws}{R:List Int}{k:Int}(h:Iv ⟨c,L,R⟩ k):Iv ⟨c.F6,L,R⟩ k:=by
 obtain⟨e1,e2,e3,e4,e5,e6,e7⟩:=Cn.eL5 c;refine⟨cE9 h.r,h.s.bD1 e4 e5 e6,fun q=>e2.trans (h.u (e5 ▸ q)),?_,h.R,?_,?_⟩
 .show(c.F6.all.size:Int)<=_;rw[e1];exact h.a
 .show c.F6.same<=k;rw[e3];exact h.sm
 .have:=h.left;unfold Cn.aS8 at this ⊢;show(c.F6.all.size:Int) - min (c.F6.all.size:Int) (max 0 (c.F6.una - 1))<=2048;rw[e1,e2];exact this
theorem Iv.bU2{X:Cs}{k m:Int}(h:Iv X k)(hm:k<=m):Iv X m:=⟨h.r,h.s,h.u,by have:=h.a;omega,by have:=h.R;omega,by have:=h.sm;omega,h.left⟩
theorem Iv.kq{X:Cs}{k:Int}(h:Iv X k){d:Cn}{L:Rws}{R:List Int}(q:Cn.Kq 1 X.c d)(hr:RgX d)(hs:StX d)(hd:d.has=true)(hR:(R.length:Int)<=X.R.length+1):Iv ⟨d,L,R⟩ (k+1):=by
 have h1:=h.a;have h2:=h.R;have h3:=h.sm;have h4:=q.same;refine⟨hr,hs,fun e=>(by rw[hd]at e;cases e),?_,?_,?_,bw (Cn.dr5 q.all q.una) h.left⟩
 .show(d.all.size:Int)<=_;rw[q.all];omega
 .show(R.length:Int)<=_;omega
 .show d.same<=_;omega
theorem cm8(c:Cn)(s:Sg):(c.aC5 s).length<=1:=by
 unfold Cn.aC5;split<;>first|exact aI _|exact bf _
theorem Iv.in_{X:Cs}{k:Int}(h:Iv X k)(hk:k<=1152921504606846975){s:Sg}(hs:SgAny s):Iv ⟨X.c.inC X.L s,X.c.inL X.L s,X.R++X.c.inR X.L s⟩ (k+1):=by
 have r16:=h.r.r16;have hsm:=h.sm;by_cases hE:X.c.inE s=0
 case neg=>
  obtain⟨e1,e2,e3⟩:=am9 (c:=X.c) (s:=s) hE X.L;rw[e1,e2,e3,ao];exact h.bU2 U
 have he:Cn.err s=0:=by
  by_cases q:Cn.err s=0
  .exact q
  .rw[bY2 q]at hE;exact absurd hE q
 have hst:¬X.c.st=0:=fun q=>by
  unfold Cn.inE at hE;rw[if_neg (fun z=>z he)]at hE;split at hE
  .cases hE
  .first|cases hE|(rw[if_pos q]at hE;cases hE)
 have hg:=cP4 hs he;have hw:=h.s.why hst;by_cases h1:X.c.st=1
 .obtain⟨e1,e2,e3⟩:=c06 (c:=X.c) (s:=s) hE h1 X.L;rw[e1,e2,e3];refine Iv.ar6 ?_;have hlen:(X.c.aC7 s).length<=1:=by
   unfold Cn.aC7;split<;>first|exact aI _|exact bf _
  have hR:((X.R++X.c.aC7 s).length:Int)<=X.R.length+1:=by rw[az];omega
  have hR':((X.R++X.c.aC7 s).length:Int)<=k+1:=by have:=h.R;omega
  have same:Iv ⟨X.c,X.c.aF5 X.L s,X.R++X.c.aC7 s⟩ (k+1):=⟨h.r,h.s,h.u,by have:=h.a;show(X.c.all.size:Int)<=_;omega,hR',by show X.c.same<=_;omega,h.left⟩;have hsy:=bV8 h.r hg;unfold Cn.aI6;split
  .exact same
  .split
   .split
    .exact⟨{ h.r with r4:=(by decide:(0:Int)<=0/\(0:Int)<=9),r5:=(by decide:(0:Int)<=11/\(11:Int)<=19) },StX.bT9 rfl,h.u,same.a,hR',same.sm,h.left⟩
    .exact same
   .split
    .split
     .have ha:=Cn.cK8 (X.c.syn s) 1 r16.1;have hra:=a92 hsy rfl 1;have hh:((X.c.syn s).V7 1).has=true:=(aR1 _ _).2;have hwy:((X.c.syn s).V7 1).why=0:=by
       rw[aZ7];split<;>exact hw
      refine h.kq ⟨ha.all,ha.una,by have:=ha.same;have e:(X.c.syn s).same=X.c.same:=rfl;rw[e]at this;show((X.c.syn s).V7 1).same<=X.c.same+1;omega,fun _=>⟨by(first|(show ¬(9:Int)=1;decide)|(show ¬(0:Int)=1;decide)|(show ¬(5:Int)=1;decide)|(show ¬(6:Int)=1;decide)|(show ¬(7:Int)=1;decide)|(show ¬(4:Int)=1;decide)|(show ¬(3:Int)=1;decide)|(show ¬(8:Int)=1;decide)|(show ¬(2:Int)=1;decide)),hh,hwy⟩⟩ { hra with r4:=(by decide:(0:Int)<=3/\(3:Int)<=9) } (Cn.Est.st ⟨by(first|(show ¬(9:Int)=1;decide)|(show ¬(0:Int)=1;decide)|(show ¬(5:Int)=1;decide)|(show ¬(6:Int)=1;decide)|(show ¬(7:Int)=1;decide)|(show ¬(4:Int)=1;decide)|(show ¬(3:Int)=1;decide)|(show ¬(8:Int)=1;decide)|(show ¬(2:Int)=1;decide)),hh,hwy⟩) hh hR
     .have q1:=h.r.d1;have q3:=h.r.d3;exact h.kq ⟨rfl,aF _,by show X.c.same<=X.c.same+1;omega,fun _=>⟨by(first|(show ¬(9:Int)=1;decide)|(show ¬(0:Int)=1;decide)|(show ¬(5:Int)=1;decide)|(show ¬(6:Int)=1;decide)|(show ¬(7:Int)=1;decide)|(show ¬(4:Int)=1;decide)|(show ¬(3:Int)=1;decide)|(show ¬(8:Int)=1;decide)|(show ¬(2:Int)=1;decide)),rfl,hw⟩⟩ { hsy with r4:=(by decide:(0:Int)<=2/\(2:Int)<=9),r25:=h.r.r24,d1:=aF _,d3:=(by show X.c.una<=X.c.snt;omega) } (Cn.Est.st ⟨by(first|(show ¬(9:Int)=1;decide)|(show ¬(0:Int)=1;decide)|(show ¬(5:Int)=1;decide)|(show ¬(6:Int)=1;decide)|(show ¬(7:Int)=1;decide)|(show ¬(4:Int)=1;decide)|(show ¬(3:Int)=1;decide)|(show ¬(8:Int)=1;decide)|(show ¬(2:Int)=1;decide)),rfl,hw⟩) rfl hR
    .exact same
 .obtain⟨e1,e2,e3⟩:=cP2 (c:=X.c) (s:=s) hE h1 X.L;rw[e1,e2,e3];refine Iv.ar6 ?_;have hest:=h.s.est hst h1;have hhas:=hest.2.1;have hlen:(X.c.aR5 X.L s).length<=1:=by
   unfold Cn.aR5;split
   .exact cm8 _ _
   .exact bf _
  have hR:((X.R++X.c.aR5 X.L s).length:Int)<=X.R.length+1:=by rw[az];omega
  have wide:∀{d:Cn},Cn.Kq 0 X.c d->Cn.Kq 1 X.c d:=fun q=>⟨q.all,q.una,by have:=q.same;omega,q.est⟩
  have fin:∀{d:Cn},Cn.Kq 1 X.c d->RgX d->Iv ⟨d,X.c.ac3 X.L s,X.R++X.c.aR5 X.L s⟩ (k+1):=fun q hr=>h.kq q hr (q.est hest).st (q.est hest).2.1 hR
  have e20:=bY5 h.r;unfold Cn.aj9;split
  .refine fin (wide (Cn.dr4 _ _)) ?_;unfold Cn.aj8;split
   .exact{ h.r with r17:=e20 }
   .exact{ h.r with }
  .split
   .split
    .exact h.kq ⟨rfl,aF _,by show X.c.same<=X.c.same+1;omega,fun q=>⟨by(first|(show ¬(9:Int)=1;decide)|(show ¬(0:Int)=1;decide)|(show ¬(5:Int)=1;decide)|(show ¬(6:Int)=1;decide)|(show ¬(7:Int)=1;decide)|(show ¬(4:Int)=1;decide)|(show ¬(3:Int)=1;decide)|(show ¬(8:Int)=1;decide)|(show ¬(2:Int)=1;decide)),q.2⟩⟩ { h.r with r4:=(by decide:(0:Int)<=0/\(0:Int)<=9) } (StX.bT9 rfl) hhas hR
    .refine⟨{ h.r with r4:=(by decide:(0:Int)<=0/\(0:Int)<=9),r5:=(by decide:(0:Int)<=12/\(12:Int)<=19) },StX.bT9 rfl,h.u,by have:=h.a;show(X.c.all.size:Int)<=_;omega,by have:=h.R;show((X.R++X.c.aR5 X.L s).length:Int)<=_;omega,by show X.c.same<=_;omega,h.left⟩
   .split
    .exact fin (wide ⟨rfl,aF _,by show X.c.same<=X.c.same+0;omega,id⟩) { h.r with }
    .split
     .have ka:=Cn.eL8 X.c s (X.c.K8 X.L s) r16.1;have ra:=bi4 h.r hhas hg U (cG5 X.c X.L s);split
      .have kt:=ka.bv3 (Cn.dr2 (X.c.Z4 s (X.c.K8 X.L s)) X.L s (X.c.K8 X.L s));exact fin ⟨kt.all,kt.una,by have:=kt.same;omega,kt.est⟩ (bO3 ra _ _ _)
      .exact fin ka ra
     .exact fin (wide (Cn.Kq.cA8 _)) h.r
theorem Iv.ed9{X:Cs}{k:Int}(h:Iv X k){n:Int}:Iv ⟨X.c.aN4 n,X.L,X.R⟩ k:=by
 have r13:=h.r.r13;by_cases hb:n<0\/1099511627776<X.c.now+n
 .rw[(Cn.dJ2 hb).2];exact h
 have hn:0<=X.c.now+n/\X.c.now+n<=1099511627776:=by omega
 have d2:=h.r.d2;have hd2:X.c.wen<=X.c.now+n:=by omega
 have hNj:RgX { X.c with now:=X.c.now+n }:= { h.r with r13:=hn,d2:=hd2 };have hI:Iv ⟨{ X.c with now:=X.c.now+n },X.L,X.R⟩ k:=⟨hNj,h.s.bD1 rfl rfl rfl,h.u,h.a,h.R,h.sm,h.left⟩;by_cases h1:X.c.st=9/\X.c.ends<=X.c.now+n
 .rw[Cn.bU6 hb h1];exact Iv.ar6 ⟨{ hNj with r4:=(by decide:(0:Int)<=0/\(0:Int)<=9) },StX.bT9 rfl,h.u,h.a,h.R,h.sm,h.left⟩
 by_cases h2:0<=X.c.clk/\X.c.val<=X.c.now+n - X.c.clk
 .rw[Cn.cA4 hb h1 h2];refine Iv.ar6 ?_;have r15:=h.r.r15;have hck: -1<=X.c.now+n/\X.c.now+n<=1099511627776:=by omega
  unfold Cn.ar9;split
  .exact⟨{ hNj with r4:=(by decide:(0:Int)<=0/\(0:Int)<=9),r5:=(by decide:(0:Int)<=13/\(13:Int)<=19) },StX.bT9 rfl,h.u,h.a,h.R,h.sm,h.left⟩
  .rename_i hg;have hg:¬X.c.gone=8:=hg;have h15:0<=X.c.gone+1/\X.c.gone+1<=8:=by omega
   have q1:=h.r.d1;have q3:=h.r.d3;have q2:X.c.una<=X.c.snt:=by omega
   split
   .exact⟨{ hNj with r14:=hck,r15:=h15 },h.s.bD1 rfl rfl rfl,h.u,h.a,h.R,h.sm,h.left⟩
   .split
    .rename_i hh;obtain⟨w1,w2,w3⟩:=h.r.h hh;have hs:=bO4 X.c.cm (X.c.cur - X.c.una) w1.1 w1.2;have hs0:0<=aC3 X.c.cm (X.c.cur - X.c.una):=by omega
     exact⟨{ hNj with r14:=hck,r15:=h15,r21:=z60,r25:=h.r.r24,d1:=aF _,d3:=q2,h:=fun _=>⟨w1,(by show 8<=X.c.cm/\X.c.cm<=65535;omega),⟨hs0,hs.2⟩⟩ },h.s.bD1 rfl rfl rfl,h.u,h.a,h.R,h.sm,h.left⟩
    .exact⟨{ hNj with r14:=hck,r15:=h15,r21:=z60,r25:=h.r.r24,d1:=aF _,d3:=q2 },h.s.bD1 rfl rfl rfl,h.u,h.a,h.R,h.sm,h.left⟩
 .rw[Cn.bU5 hb h1 h2];exact Iv.ar6 hI
theorem Iv.eU9{X:Cs}{k:Int}(h:Iv X k)(s:ByteArray):Iv ⟨X.c.wrC s,X.L,X.R⟩ (k+1):=by
 by_cases hb:X.c.st=0\/X.c.shut=true
 .rw[(Cn.bU3 hb s).1];exact h.bU2 U
 have h0:¬X.c.st=0:=fun q=>hb (.inl q)
 have h1:X.c.shut=false:=by
  cases q:X.c.shut with
  | false=>rfl
  | true=>exact absurd (.inr q) hb
 rw[(Cn.cA2 h0 h1 s).1];refine Iv.ar6 ?_;have hl:=h.left;have hr:X.c.a23=2048 - X.c.aS8:=by unfold Cn.a23;rw[h1];rfl
 have hl0:0<=X.c.aS8:=by unfold Cn.aS8;omega
 have hn:X.c.wrN s=min (s.size:Int) (2048 - X.c.aS8):=by unfold Cn.wrN;rw[hr]
 have hsz:((X.c.all++s.extract 0 (X.c.wrN s).toNat).size:Int)=X.c.all.size+X.c.wrN s:=by
  rw[aR,ByteArray.size_extract];omega
 have:=h.a;have:=h.R;have:=h.sm;refine⟨{ h.r with },h.s.bD1 rfl rfl rfl,h.u,?_,?_,?_,?_⟩
 .show((X.c.all++s.extract 0 (X.c.wrN s).toNat).size:Int)<=_;rw[hsz];omega
 .show(X.R.length:Int)<=_;omega
 .show X.c.same<=_;omega
 .unfold Cn.aS8 at hl hl0 hn ⊢;show((X.c.all++s.extract 0 (X.c.wrN s).toNat).size:Int) - min ((X.c.all++s.extract 0 (X.c.wrN s).toNat).size:Int) (max 0 (X.c.una - 1))<=2048;rw[hsz];omega
theorem Iv.ee0{X:Cs}{k:Int}(h:Iv X k)(n:Int):Iv ⟨X.c.rdC X.L n,X.L,X.R⟩ k:=by
 unfold Cn.rdC;split
 .exact⟨{ h.r with },h.s.bD1 rfl rfl rfl,h.u,h.a,h.R,h.sm,h.left⟩
 .exact h
theorem Iv.eV0{X:Cs}{k:Int}(h:Iv X k):Iv ⟨X.c.clC,X.L,X.R⟩ k:=by
 unfold Cn.clC;split
 .exact h
 .rename_i he;have h0:¬X.c.st=0:=fun q=>he (by unfold Cn.clE;rw[if_pos q];decide)
  have hw:=h.s.why h0;split
  .exact Iv.ar6 ⟨{ h.r with r4:=(by decide:(0:Int)<=0/\(0:Int)<=9) },StX.bT9 rfl,h.u,h.a,h.R,h.sm,h.left⟩
  .rename_i h1;have hh:=h.s.two h0 h1;split
   .exact Iv.ar6 ⟨{ h.r with r4:=(by decide:(0:Int)<=4/\(4:Int)<=9) },Cn.Est.st ⟨by(first|(show ¬(9:Int)=1;decide)|(show ¬(0:Int)=1;decide)|(show ¬(5:Int)=1;decide)|(show ¬(6:Int)=1;decide)|(show ¬(7:Int)=1;decide)|(show ¬(4:Int)=1;decide)|(show ¬(3:Int)=1;decide)|(show ¬(8:Int)=1;decide)|(show ¬(2:Int)=1;decide)),hh,hw⟩,h.u,h.a,h.R,h.sm,h.left⟩
   .split
    .exact Iv.ar6 ⟨{ h.r with r4:=(by decide:(0:Int)<=8/\(8:Int)<=9) },Cn.Est.st ⟨by(first|(show ¬(9:Int)=1;decide)|(show ¬(0:Int)=1;decide)|(show ¬(5:Int)=1;decide)|(show ¬(6:Int)=1;decide)|(show ¬(7:Int)=1;decide)|(show ¬(4:Int)=1;decide)|(show ¬(3:Int)=1;decide)|(show ¬(8:Int)=1;decide)|(show ¬(2:Int)=1;decide)),hh,hw⟩,h.u,h.a,h.R,h.sm,h.left⟩
    .exact Iv.ar6 ⟨{ h.r with },h.s.bD1 rfl rfl rfl,h.u,h.a,h.R,h.sm,h.left⟩
theorem Iv.eV1{X:Cs}{k:Int}(h:Iv X k):Iv ⟨X.c.abC,X.L,X.R++X.c.abR⟩ (k+1):=by
 have hl:X.c.abR.length<=1:=by
  unfold Cn.abR;split<;>first|exact aI _|exact bf _
 have:=h.R;have hR:((X.R++X.c.abR).length:Int)<=k+1:=by rw[az];omega
 have hx:Iv X (k+1):=h.bU2 U;unfold Cn.abC;split
 .exact⟨h.r,h.s,h.u,hx.a,hR,hx.sm,h.left⟩
 .exact Iv.ar6 ⟨{ h.r with r4:=(by decide:(0:Int)<=0/\(0:Int)<=9),r5:=(by decide:(0:Int)<=17/\(17:Int)<=19) },StX.bT9 rfl,h.u,hx.a,hR,hx.sm,h.left⟩
theorem Iv.out{X:Cs}{k:Int}(h:Iv X k)(h0:0<=k)(hk:k<=2199023255552):Iv ⟨X.c.aN5,X.L,[]⟩ k:=by
 have ha:=h.a;have nil:(([]:List Int).length:Int)<=k:=h0;unfold Cn.aN5;split
 .exact⟨h.r,h.s,h.u,ha,nil,h.sm,h.left⟩
 .refine Iv.ar6 ?_;have hl:Cn.Like X.c X.c.aK9:=by
   rw[Cn.bl9];exact Cn.Like.goC h.r.r25.1 _ (Cn.Like.bV0 h.r.d3 h.r.r21.1) (aI _)
  have hr:=Like.rg hl h.r U;have e:=hl.e;refine⟨{ hr with },h.s.bD1 ?_ ?_ ?_,fun q=>?_,?_,nil,?_,?_⟩
  .show X.c.aK9.st=_;rw[e]
  .show X.c.aK9.has=_;rw[e]
  .show X.c.aK9.why=_;rw[e]
  .have q:X.c.aK9.has=false:=q;have q':X.c.has=false:=by rw[e]at q;exact q
   show X.c.aK9.una=0;rw[e];exact h.u q'
  .show(X.c.aK9.all.size:Int)<=_;rw[e];exact ha
  .show X.c.aK9.same<=_;rw[e];exact h.sm
  .have:=h.left;unfold Cn.aS8 at this ⊢;show(X.c.aK9.all.size:Int) - min (X.c.aK9.all.size:Int) (max 0 (X.c.aK9.una - 1))<=2048;rw[e];exact this
section
variable{X:Cs}{J:Env}{d:Cn}{out:List Sg}{has:Bool}{w w':World}{g:Nat}{a:Pa}{N:Bn}{a':Act}
theorem dz0(A:OAsk X has)(hs:¬X.c.st=0)(I:OI2 X d out J)(hp:(u9 J (.not aT6)).b=true)
 (hM:Md J (fun i=>i∈X4 a g has) w (V0 (fun _=>g) 2 a) 12 (I1 (oc1 prog f9 has) 0) N a' w'):Y7 prog oP2 (oR f9) (Y7 prog [1,1] (y7 f9) (bodyPost prog f9 (F7 (b99 w g (X4 a g has) X)))) (.exit 2) a' w':=by
 obtain⟨u,N',M2⟩:=Sy.Md.aL7 hM (eZ2 has) (fun u=>((I.eK6 hp I.like.ord N u).2).cx A hs);obtain⟨hNj,I2⟩:=I.eK6 hp I.like.ord N u;generalize({ J.L5 N oEx with u:=u }:Env)=J2 at M2 I2;obtain⟨ho,hd⟩:=I.ed5 hNj;refine b53 (B:=⟨J2,fun i=>i∈X4 a g has,w,V0 (fun _=>g) 2 a,12⟩) I2.e.g (dz2 I2.e) rfl (.exit 2) (p:=oP2) (c:=oR f9) (r:=od0 prog f9 has) rfl (dc4 has) ⟨?_,?_,?_,trivial⟩ M2
 .intro hpc N3 a3 w3 M3;refine aQ5 [1,1] _ _ ?_;obtain⟨e1,e2,e3⟩:=I2.ed6 A hs ho hd hpc.1 hpc.2.1;exact bI9 I2.e A.hh M3 (dc3 has) bH bH e1 e2 e3
 .intro hpc N3 a3 w3 M3;refine aQ5 [1,1] _ _ ?_;obtain⟨e1,e2,e3⟩:=I2.eK7 A hs ho hd (I2.no1 ho hpc.1);exact bI9 I2.e A.hh M3 (dc2 has) bH bA e1 e2 e3
 .intro hpc N3 a3 w3 M3;refine aQ5 [1,1] _ _ ?_;obtain⟨e1,e2,e3⟩:=I2.eK7 A hs ho hd (I2.e.no2 hpc.1);exact bI9 I2.e A.hh M3 (dc1 has) bH bA e1 e2 e3
theorem ch2(A:OAsk X has)(hs:¬X.c.st=0)(I:OI2 X d out J)
 (hM:Md J (fun i=>i∈X4 a g has) w (V0 (fun _=>g) 2 a) 12 (ocT has) N a' w'):(Sy.I9 oP2 (oR f9)).wp prog (Y7 prog oP2 (oR f9) (Y7 prog [1,1] (y7 f9) (bodyPost prog f9 (F7 (b99 w g (X4 a g has) X))))) a' w':=by
 rw[dc5];refine aK0 (r:=oc1 prog f9 has) rfl (dc6 has) (fun J=>∃ d out,OI2 X d out J) (fun J=>(X.c.K3 - J.i 21).toNat) (fun J ⟨d,out,I⟩=>I.e.g) (fun J ⟨d,out,I⟩=>aR0 I.e.cn) (fun J ⟨d,out,I⟩=>I.cx A hs) (fun J ⟨d,out,I⟩=>?_) ⟨d,out,I⟩ hM;have mu:∀ J':Env,J'.i 21=(d.Y1 X.c.K3).cur->(X.c.K3 - (d.Y1 X.c.K3).cur).toNat<(X.c.K3 - d.cur).toNat->(X.c.K3 - J'.i 21).toNat<(X.c.K3 - J.i 21).toNat:=fun J' h1 h2=>by rw[h1,I.i21];exact h2
 have m1:∀{m:Tm} (N:Bn) (u:Nat->Value),(u9 J aT6).b=true->((u9 J m).i=if d.ou.aB5 d.cur X.c.K3 d.mss then X.c.own else 0)->(u9 J qdf).b=true->(u9 J qd5).b=true->(∃ d out,OI2 X d out { J.L5 N (oB1 has m)with u:=u })/\(X.c.K3 - ({ J.L5 N (oB1 has m)with u:=u }:Env).i 21).toNat<(X.c.K3 - J.i 21).toNat:=fun N u hp hm q1 q2=>by
  obtain⟨s1,s2,s3⟩:=I.eK5 A.r A.hh hp hm N u;rw[A9]at q1 q2;change J.i 23=0 at q1;unfold aT7 at q2;rw[I.at]at q2;change _=J.i 22 at q2;rw[I.i23]at q1;rw[I.i22]at q2;have Jj:=s1 q1 q2;exact⟨⟨_,_,Jj⟩,mu _ Jj.i21 s3⟩
 have m2:∀{m:Tm} (N:Bn) (u:Nat->Value),(u9 J aT6).b=true->((u9 J m).i=if d.ou.aB5 d.cur X.c.K3 d.mss then X.c.own else 0)->((u9 J (.not qdf)).b=true\/(u9 J (.not qd5)).b=true)->(∃ d out,OI2 X d out { J.L5 N (oB2 has m)with u:=u })/\(X.c.K3 - ({ J.L5 N (oB2 has m)with u:=u }:Env).i 21).toNat<(X.c.K3 - J.i 21).toNat:=fun N u hp hm q=>by
  obtain⟨s1,s2,s3⟩:=I.eK5 A.r A.hh hp hm N u;have q':¬(d.ou.pAt d.cur X.c.K3 d.mss=d.snt/\d.meas=0):=fun⟨q1,q2⟩=>by
   rcases q with q|q
   .rw[y9,A9]at q;change ¬J.i 23=0 at q;rw[I.i23]at q;exact q q2
   .rw[y9,A9]at q;unfold aT7 at q;rw[I.at]at q;change ¬_=J.i 22 at q;rw[I.i22]at q;exact q q1
  have Jj:=s2 q';exact⟨⟨_,_,Jj⟩,mu _ Jj.i21 s3⟩
 refine⟨?_,?_,?_,?_,?_,?_,?_,trivial⟩
 .intro hpc N4 a4 w4 M4;exact dz0 A hs I hpc.1 M4
 .intro hpc N u;exact m1 N u hpc.2.2.2.1 (I.e.own I.syn hpc.2.2.1) hpc.1 hpc.2.1
 .intro hpc N u;exact m2 N u hpc.2.2.2.1 (I.e.own I.syn hpc.2.2.1) (.inl hpc.1)
 .intro hpc N u;exact m2 N u hpc.2.2.1 (I.e.own I.syn hpc.2.1) (.inr hpc.1)
 .intro hpc N u;exact m1 N u hpc.2.2.2.1 (I.e.am4 I.syn hpc.2.2.1) hpc.1 hpc.2.1
 .intro hpc N u;exact m2 N u hpc.2.2.2.1 (I.e.am4 I.syn hpc.2.2.1) (.inl hpc.1)
 .intro hpc N u;exact m2 N u hpc.2.2.1 (I.e.am4 I.syn hpc.2.1) (.inr hpc.1)
theorem dz1(A:OAsk X has)(I:OI1 X X.R.length J)
 (hM:Md J (fun i=>i∈X4 a g has) w (V0 (fun _=>g) 2 a) 12 (obT has []) N a' w'):(oR f9).wp prog (Y7 prog [1,1] (y7 f9) (bodyPost prog f9 (F7 (b99 w g (X4 a g has) X)))) a' w':=by
 have more:∀ l:List Tm,(∀ t∈l,(u9 J t).b=true)->Md J (fun i=>i∈X4 a g has) w (V0 (fun _=>g) 2 a) 12 (obT has l) N a' w':=fun l hl=>⟨hM.act,hM.hp,hM.ne,hM.may,I.cxB A hl,hM.only,hM.old⟩
 by_cases hs:X.c.st=0
 .have e4:(u9 J qaw).b=true:=by rw[A9,I.e.k rfl];exact hs
  refine ag2 (B:=⟨J,fun i=>i∈X4 a g has,w,V0 (fun _=>g) 2 a,12⟩) (sp:=pcS) (p:=oP2) (c:=oR f9) I.e.g (aR0 I.e.cn) rfl (r:=ob0 prog f9 has [.eq k4 i9]) rfl (dc7 has) ⟨?_,trivial⟩ (more _ fun t ht=>by rw[ah.1 ht];exact e4);intro _ N7 a7 w7 M7;refine aQ5 [1,1] _ _ ?_;have c5:=I.c5;rw[List.take_length]at c5;have eo:X.c.aB3 X.L X.R=X.R.map X.c.rsG:=by
   unfold Cn.aB3;rw[if_pos hs,ao]
  refine bI9 I.e A.hh M7 (dx3 has) bH bA ?_ ?_ ?_
  .unfold Cn.aN5;rw[if_pos hs];exact bw0 A.hh
  .show J.c 5=_;rw[c5,eo,List.map_map];rfl
  .show J.i 19=_;rw[I.i19,eo,aE]
 .have e4:(u9 J nz4).b=true:=by unfold nz4;rw[y9,A9,I.e.k rfl];exact hs
  have hL:∀ t∈oL has,(u9 J t).b=true:=fun t ht=>by
   cases has with
   | true=>rw[ah.1 ht];exact e4
   | false=>
     rcases aa.1 ht with rfl|ht
     .exact e4
     .rw[ah.1 ht,A9,I.e.k rfl];exact A.u A.hh
  have one:∀{m l:Tm} (N:Bn) (u:Nat->Value),(u9 J k19).b=true->(u9 J aL8).b=true->((u9 J m).i=if X.c.ou.aB5 X.c.una X.c.snt X.c.mss then X.c.own else 0)->(u9 J l).i=X.c.K3->∃ d out,OI2 X d out { J.L5 N (oE0 oN1 (oR1 has m) l)with u:=u }:=fun N u h1 h2 hm hl=>by
   obtain⟨e1,e2⟩:=I.one A h1 h2 hm;exact⟨_,_,I.dS5 A.r e1 e2 hl N u⟩
  have non:∀{l:Tm} (N:Bn) (u:Nat->Value),¬(X.c.again=true/\¬X.c.ou.pN X.c.una X.c.snt X.c.mss)->(u9 J l).i=X.c.K3->∃ d out,OI2 X d out { J.L5 N (oE0 (.iv 19) s5 l)with u:=u }:=fun N u h hl=>by
   obtain⟨e1,e2⟩:=I.eU7 h;exact⟨_,_,I.dS5 A.r e1 e2 hl N u⟩
  have es:(u9 J ac6).b=X.c.ou.aB5 X.c.una X.c.snt X.c.mss:=by rw[I.e.k rfl];rfl
  cases has with
  | true=>
    refine aa2 (sp:=pcS) (p:=oP2) (c:=oR f9) (T:=ocT true) (r:=ob0 prog f9 true (oL true)) rfl cy0 (fun J=>∃ d out,OI2 X d out J) (fun J ⟨d,out,I⟩=>I.cx A hs) I.e.g (aR0 I.e.cn) ⟨?_,?_,?_,?_,?_,?_,?_,?_,?_,?_,?_,?_,trivial⟩ (fun J' ⟨d,out,Jj⟩ N a w M=>ch2 A hs Jj M) (more _ hL)
    .intro hpc N u;exact one N u hpc.2.2.2.1 hpc.2.2.1 (I.e.own es hpc.2.1) (I.e.l1 hpc.1)
    .intro hpc N u;exact one N u hpc.2.2.2.2.1 hpc.2.2.2.1 (I.e.own es hpc.2.2.1) (I.e.l2 hpc.2.1 hpc.1)
    .intro hpc N u;exact one N u hpc.2.2.2.2.1 hpc.2.2.2.1 (I.e.own es hpc.2.2.1) (I.e.l3 A hpc.2.1 hpc.1)
    .intro hpc N u;exact one N u hpc.2.2.2.1 hpc.2.2.1 (I.e.am4 es hpc.2.1) (I.e.l1 hpc.1)
    .intro hpc N u;exact one N u hpc.2.2.2.2.1 hpc.2.2.2.1 (I.e.am4 es hpc.2.2.1) (I.e.l2 hpc.2.1 hpc.1)
    .intro hpc N u;exact one N u hpc.2.2.2.2.1 hpc.2.2.2.1 (I.e.am4 es hpc.2.2.1) (I.e.l3 A hpc.2.1 hpc.1)
    .intro hpc N u;exact non N u (I.e.bD5 hpc.2.1) (I.e.l1 hpc.1)
    .intro hpc N u;exact non N u (I.e.bD5 hpc.2.2.1) (I.e.l2 hpc.2.1 hpc.1)
    .intro hpc N u;exact non N u (I.e.bD5 hpc.2.2.1) (I.e.l3 A hpc.2.1 hpc.1)
    .intro hpc N u;exact non N u (I.e.bU1 hpc.2.1) (I.e.l1 hpc.1)
    .intro hpc N u;exact non N u (I.e.bU1 hpc.2.2.1) (I.e.l2 hpc.2.1 hpc.1)
    .intro hpc N u;exact non N u (I.e.bU1 hpc.2.2.1) (I.e.l3 A hpc.2.1 hpc.1)
  | false=>
    refine aa2 (sp:=pcS) (p:=oP2) (c:=oR f9) (T:=ocT false) (r:=ob0 prog f9 false (oL false)) rfl cy1 (fun J=>∃ d out,OI2 X d out J) (fun J ⟨d,out,I⟩=>I.cx A hs) I.e.g (aR0 I.e.cn) ⟨?_,?_,?_,?_,trivial⟩ (fun J' ⟨d,out,Jj⟩ N a w M=>ch2 A hs Jj M) (more _ hL)
    .intro hpc N u;exact one N u hpc.2.2.1 hpc.2.1 (I.e.own es hpc.1) (I.e.l1 hpc.2.2.2.2.1)
    .intro hpc N u;exact one N u hpc.2.2.1 hpc.2.1 (I.e.am4 es hpc.1) (I.e.l1 hpc.2.2.2.2.1)
    .intro hpc N u;exact non N u (I.e.bD5 hpc.1) (I.e.l1 hpc.2.2.2.1)
    .intro hpc N u;exact non N u (I.e.bU1 hpc.1) (I.e.l1 hpc.2.2.1)
end
theorem bm9{X:Cs}{has:Bool}{w:World}{g:Nat}{a:Pa}(W:PcW w g a X)(A:OAsk X has):Calls prog 9 #[.pointer (some ⟨g,0,none⟩)] w (F7 (b99 w g (X4 a g has) X)):=by
 have T:Tells (H8 X [] [] []) has (tsY j8 has) j5 j6 X:=bV7 rfl rfl A.hh (fun _=>rfl) rfl;have hM:=cN0 (J:=H8 X [] [] []) rfl W T (Z1 A.hh A.z A.r (by3 A.m));refine aH2 (B:=⟨H8 X [] [] [],fun i=>i∈X4 a g has,w,V0 (fun _=>g) 2 a,12⟩) (sp:=pcS) (p:=oP1) (xs:=[.one (.c (.ptr 0 0))]) (s:=⟨[],a12 0 2 has (tsY j8 has) j5 j6,V5 has oMr,12⟩) (r:=oa0 prog f9 has) (fun i=>rfl) (aR0 (L6 X [] [] [])) rfl func9 rfl rfl (dd0 has) hM ⟨?_,trivial⟩ rfl;intro _ N a1 w1 M1;show(Sy.I9 oP1 (y7 f9)).wp prog (Y7 prog oP1 (y7 f9) _) a1 w1;rw[dc8];have fr:=eP4 has;simp only[m5]at fr;obtain⟨N2,M2⟩:=Sy.Md.bl6 M1 3 60 38 aH7 (show 12<=60 by decide) fr.1 fr.2;have I0:∀ u,OI1 X 0 { (H8 X [] [] []).L5 N2 [.i 19 i9, .i 20 i9, .c 5 tn]with u:=u }:=fun u=>⟨⟨fun i=>rfl,rfl,rfl,rfl,rfl,rfl⟩,cc8 W.tab,bf _,rfl,rfl,rfl⟩
 obtain⟨u,N3,M3⟩:=Sy.Md.aL7 M2 (eZ4 has) (fun u=>(I0 u).cx A);refine aK0 (r:=oa1 prog f9 has) rfl (dc9 has) (fun J=>∃ k,OI1 X k J) (fun J=>((X.R.length:Int) - J.i 20).toNat) (fun J ⟨k,I⟩=>I.e.g) (fun J ⟨k,I⟩=>aR0 I.e.cn) (fun J ⟨k,I⟩=>I.cx A) (fun J ⟨k,I⟩=>?_) ⟨0,I0 u⟩ M3;have e2:(J.c 2).length=X.R.length:=by rw[I.e.c2,aT8]
 have h20:=I.i20;refine⟨?_,?_,trivial⟩
 .intro hpc N u;have q:=hpc.1;rw[A7]at q;change J.i 20<((J.c 2).length:Int)at q;have hlt:k<X.R.length:=by omega
  refine⟨⟨k+1,I.eK8 hlt N u⟩,?_⟩;show((X.R.length:Int) - (J.i 20+1)).toNat<((X.R.length:Int) - J.i 20).toNat;omega
 .intro hpc N4 a4 w4 M4;have q:=hpc.1;rw[y9,A7]at q;change ¬J.i 20<((J.c 2).length:Int)at q;have hk:=I.hk;obtain rfl:k=X.R.length:=by omega
  refine bq3 (p:=[1,1]) dy8 dy9 ?_;have I5:∀ u,OI1 X X.R.length { J.L5 N4 []with u:=u }:=fun u=>⟨⟨I.e.g,I.e.f,I.e.o,I.e.c0,I.e.c1,I.e.c2⟩,I.u,I.hk,I.i20,I.i19,I.c5⟩
  obtain⟨u5,N5,M5⟩:=Sy.Md.aL7 M4 (eZ3 has) (fun u=>(I5 u).cxB A (fun t ht=>by cases ht));exact dz1 A (I5 u5) M5
theorem x_i{cs:List Value}(h:T5 V3 cs)(n:Nat)(hn:V3[n]? =some (some (some .i64))): -9223372036854775808<=z9 cs n/\z9 cs n<=9223372036854775807:=by
 obtain⟨y,hy,hw⟩:=by9 h n hn;have:z9 cs n=y:=by unfold z9;rw[hy]
 rw[this];exact aK2 hw
theorem x_u{cs:List Value}(h:T5 V3 cs)(n:Nat)(hn:V3[n]? =some (some (some .u32))):0<=z9 cs n/\z9 cs n<=4294967295:=by
 obtain⟨y,hy,hw⟩:=by9 h n hn;have:z9 cs n=y:=by unfold z9;rw[hy]
 rw[this];exact aK2 hw
theorem x_s{cs:List Value}(h:T5 V3 cs)(n:Nat)(hn:V3[n]? =some none):(aB8 cs n).size<=9223372036854775807:=by
 obtain⟨s,hs,hw⟩:=cz2 h n hn;have:aB8 cs n=s:=by unfold aB8;rw[hs]
 rw[this];exact hw
def stG(cs:List Value):Sg:=⟨z9 cs 16,z9 cs 17,z9 cs 18,z9 cs 19,z9 cs 20,z9 cs 21,Y5 cs 22,Y5 cs 23,Y5 cs 24,Y5 cs 25,z9 cs 26,z9 cs 27,aB8 cs 28⟩
theorem bf1{cs:List Value}(h:T5 V3 cs):SgAny (stG cs):=⟨x_u h 16 rfl,x_i h 17 rfl,x_u h 18 rfl,x_i h 19 rfl,x_u h 20 rfl,x_u h 21 rfl,x_i h 26 rfl,x_i h 27 rfl,x_s h 28 rfl⟩
def stE(X X':Cs)(e n:Int)(is:Bool)(tx:ByteArray)(O:List Sg)(cs:List Value):Env:=
 Env.hi { U9 [] [] [] []with i:=fun j=>if j=10 then e else if j=11 then n else if j=12 then X'.c.am6 X'.L else 0,b:=fun _=>is,s:=fun _=>tx,f:=cnF,o:=cnO,c:=fun j=>if j=0 then [K9 X.c]else if j=1 then X.L else if j=2 then Y3 X.R else if j=3 then [K9 X'.c]else if j=4 then X'.L else if j=5 then Y3 X'.R else O.map sgR } 100 cs
section
variable{X X':Cs}{e n:Int}{is:Bool}{tx:ByteArray}{O:List Sg}{cs:List Value}
theorem ay7:RwA (stE X X' e n is tx O cs) 0 X:=⟨rfl,rfl,rfl⟩
theorem ay6:RwA (stE X X' e n is tx O cs) 3 X':=⟨rfl,rfl,rfl⟩
end
theorem a82{f:FuncId}{args:Array Value}{w:World}{g:Nat}{F:List Nat}{X':Cs}{v0:Value}(h:Calls prog f args w (F7 fun v w'=>v=v0/\aS4 w w' g F X')):Calls prog f args w (F7 (FxP PcP (fun _ _=>v0) [] w g F X')):=h.mono fun e w' q=>by
 obtain⟨v,he,hv,F',hP,ho,hF⟩:=q;exact⟨v,he,0,0,F',hv,RowT.bC7 ..,fun h=>absurd rfl h,hP,ho,hF,fun h=>absurd rfl h⟩
theorem a83{f:FuncId}{args:Array Value}{w:World}{g:Nat}{F:List Nat}{X':Cs}{v0:Value}(h:Calls prog f args w (F7 fun v w'=>v=v0/\aS6 w w' g F X')):Calls prog f args w (F7 (FxP DcP (fun _ _=>v0) [] w g F X')):=h.mono fun e w' q=>by
 obtain⟨v,he,hv,F',hP,ho,hF⟩:=q;exact⟨v,he,0,0,F',hv,RowT.bC7 ..,fun h=>absurd rfl h,hP,ho,hF,fun h=>absurd rfl h⟩
theorem Iv.sz{X:Cs}{k:Int}(h:Iv X k)(hk:k<=1099511627760):SzX X:=⟨by have:=h.a;omega,by have:=h.R;omega⟩
theorem Iv.mr{X:Cs}{k:Int}(h:Iv X k)(hk:k<=1099511627760):MrX X:=⟨by have:=h.R;omega,by have:=h.sm;omega⟩
theorem Iv.mq{X:Cs}{k:Int}(h:Iv X k)(hk:k<=1099511627760):MqX X:=⟨by have:=h.R;omega,by have:=h.a;omega⟩
theorem Iv.oa{X:Cs}{k:Int}(h:Iv X k)(hk:k<=1099511627760):OAsk X X.c.has:=⟨rfl,h.sz hk,h.r,by have:=h.R;omega,h.u⟩
theorem Iv.da{X:Cs}{k:Int}(h:Iv X k)(hk:k<=1099511627760):DAsk X X.c.has:=⟨h.oa hk,fun h0=>⟨fun q h1=>(by rw[h.s.one h1]at q;cases q),fun q=>by
 by_cases h1:X.c.st=1
 .exact h1
 .rw[h.s.two h0 h1]at q;cases q⟩⟩
theorem ay5{J:Env}(hf:J.f=cnF)(hO:J.o=cnO){X X':Cs}(h0:RwA J 0 X)(h3:RwA J 3 X')(h12:J.i 12=X'.c.am6 X'.L){k:Int}(iv:Iv X' k)(hk:k<=1099511627760){f1 f2:FuncId}{args:List SV}{t:Tm}{v:Nat->SV}{fv:Nat->Nat->Value}{rows:Rws}(ht:(u9 J t).c=rows)(hv:∀(N:Bn) (m:Nat),(v m).A1 J N=fv (N m) (N (m+1)))
 (H1:∀{w:World} {g:Nat} {a:Pa},PcW w g a X->∀ N:Bn,Calls prog f1 (#[.pointer (some ⟨g,0,none⟩)]++(args.map (SV.A1 J N)).toArray) w (F7 (FxP PcP fv rows w g (X4 a g X.c.has) X')))
 (H2:∀{w:World} {g:Nat} {a:Da},DcW w g a X->∀ N:Bn,Calls prog f2 (#[.pointer (some ⟨g,0,none⟩)]++(args.map (SV.A1 J N)).toArray) w (F7 (FxP DcP fv rows w g (Y8 a g X.c.has) X'))):
 ∀ q∈ksp f1 f2 args t v X.c.has X'.c.has,q.Ok prog J:=by
 intro q hq;unfold ksp at hq;simp only[aa,aY,or_false]at hq;have hm:∀(N:Bn) (m:Nat),(SV.one (sI 12)).A1 J N= .int .i64 (X'.c.am6 X'.L):=fun N m=>by
  show Value.int .i64 (J.i 12)=_;rw[h12]
 rcases hq with rfl|rfl|rfl|rfl|rfl|rfl
 .exact dn4
 .exact dp5 ea1
 .exact cF7 hf hO (F:=⟨f1,args,0,3,X.c.has,X'.c.has,t,v⟩) h0 h3 rfl rfl ht hv H1
 .exact cG0 hf hO (F:=⟨f2,args,0,3,X.c.has,X'.c.has,t,v⟩) h0 h3 rfl rfl ht hv H2
 .exact cF7 hf hO (F:=⟨_,[],3,3,X'.c.has,X'.c.has,tn,fun _=> .one (sI 12)⟩) (fv:=fun _ _=> .int .i64 (X'.c.am6 X'.L)) (rows:=[]) h3 h3 rfl rfl rfl hm fun W N=>a82 (cB2 W (iv.mq hk) iv.r)
 .exact cG0 hf hO (F:=⟨_,[],3,3,X'.c.has,X'.c.has,tn,fun _=> .one (sI 12)⟩) (fv:=fun _ _=> .int .i64 (X'.c.am6 X'.L)) (rows:=[]) h3 h3 rfl rfl rfl hm fun W N=>a83 (b00 W (iv.mq hk) iv.r)
def bd8(X X':Cs)(cs:List Value):Prop:=∀(w:World) (g h:Nat) (a:Pa) (d:Da),PcW w g a X->DcW w h d X->(∀ i∈X4 a g X.c.has,i∉Y8 d h X.c.has)->
 Calls prog 7 #[.pointer (some ⟨g,0,none⟩), .pointer (some ⟨h,0,none⟩), .agg cs.toArray] w (F7 fun v w'=>v= .bool true/\b98 (prS g a h d X.c.has) w g h X' w')
theorem a64{X X':Cs}{j e n:Int}{is:Bool}{tx:ByteArray}{O:List Sg}{cs:List Value}(hcs:T5 V3 cs){sp:Bool->Bool->List Sy.Spec}{pc:List Tm}(hsp:∀ q∈sp X.c.has X'.c.has,q.Ok prog (stE X X' e n is tx O cs))
 (hrun:ae9 prog f7 X'.c.has (stR prog f7 sp (ah2 j j pc) X.c.has X'.c.has)=true) (hj:z9 cs 0 % 9=j) (hO:O.length<=1759218604000) (hpc:A6 (stE X X' e n is tx O cs) pc):bd8 X X' cs:=by
 intro w g h a d W V hd;have hc:(ah2 j j pc).ok (stE X X' e n is tx O cs):=by
  refine cxP ⟨?_,?_,?_,trivial⟩ hpc
  .show j<=z9 cs 0 % 9/\z9 cs 0 % 9<=j;omega
  .exact x_i hcs 0 rfl
  .show(0:Int)<=((O.map sgR).length:Int)/\((O.map sgR).length:Int)<=1759218604000;rw[aE];omega
 refine cx5 (fun i=>rfl) rfl rfl hsp func7 rfl hrun ay7 ay6 rfl rfl W V hd hc ?_;have hden:A5 (stE X X' e n is tx O cs) (prB g a h d) xC=cs:=ap6 hcs (fun i x hx=>by rw[Nat.zero_add];exact hx);show _=#[.pointer (some ⟨g,0,none⟩), .pointer (some ⟨h,0,none⟩)]++#[Value.agg (A5 (stE X X' e n is tx O cs) (prB g a h d) xC).toArray];rw[hden];rfl
theorem eA9{c:Cn}(h:StX c)(hh:c.has=true)(L:Rws)(s:Sg):(c.inC L s).has=true:=by
 by_cases hE:c.inE s=0
 .by_cases h1:c.st=1
  .rw[h.one h1]at hh;cases hh
  .rw[(cP2 hE h1 L).1,(aG8 _).2];unfold Cn.aj9
   (repeat' split)<;>first|exact hh|exact(bE5 _ _).trans hh|exact(ao4 _ _ _ _).2.trans ((aO0 _ _ _).2.trans hh)|exact(aO0 _ _ _).2.trans hh
 .rw[(am9 hE L).1];exact hh
theorem cu2(c:Cn)(n:Int):(c.aN4 n).has=c.has:=by
 unfold Cn.aN4 Cn.ar9
 (repeat' split)<;>first|rfl|exact(aG8 _).2
theorem dr9(c:Cn)(s:ByteArray):(c.wrC s).has=c.has:=by
 unfold Cn.wrC;split<;>first|rfl|exact(aG8 _).2
theorem eD7(c:Cn):c.clC.has=c.has:=by
 unfold Cn.clC
 (repeat' split)<;>first|rfl|exact(aG8 _).2
theorem eF1(c:Cn):c.abC.has=c.has:=by
 unfold Cn.abC;split<;>first|rfl|exact(look_all _).2
theorem bx8:∀(n:Nat) (c:Cn) (L:Rws) (l:Int),(Cn.ay2 n c L l).length<=n
 | 0,_,_,_=>aI _
 | n+1,c,L,l=>by
   show(if c.ou.pN c.cur l c.mss then []else c.aP4 L c.cur l::Cn.ay2 n (c.Y1 l) L l).length<=n+1;split
   .exact bf _
   .have:=bx8 n (c.Y1 l) L l;rw[List.length_cons];omega
theorem bx7{X:Cs}{k:Int}(h:Iv X k)(hk:k<=1099511627760):(X.c.aB3 X.L X.R).length<=1759218604000:=by
 obtain⟨l0,l1⟩:=(h.oa hk).lim;have d1:=h.r.d1;have hR:=h.R;have h2:(X.c.aW8 X.L).length<=1+X.c.bm0:=by
  unfold Cn.aW8;rw[az];have:=bx8 X.c.bm0 X.c X.L X.c.K3;have:(X.c.aI1 X.L).length<=1:=by
   unfold Cn.aI1;split
   .exact aI _
   .exact bf _
  omega
 have h3:(X.c.bU8 X.L).length<=1+X.c.bm0:=by
  unfold Cn.bU8;split
  .show 1<=_;omega
  .exact h2
 have hf:X.c.bm0=(X.c.K3 - X.c.cur).toNat:=rfl;unfold Cn.aB3;rw[az,aE];split
 .show X.R.length+0<=_;omega
 .omega
theorem cu5{X:Cs}{k:Int}(h:Iv X k)(h0:0<=k)(hk:k<1099511627760){cs:List Value}(hcs:T5 V3 cs):∃ X',Iv X' (k+1)/\bd8 X X' cs:=by
 have hk1:k<=1099511627760:=by omega
 have hk2:k+1<=1099511627760:=by omega
 have c9:z9 cs 0 % 9=0\/z9 cs 0 % 9=1\/z9 cs 0 % 9=2\/z9 cs 0 % 9=3\/z9 cs 0 % 9=4\/z9 cs 0 % 9=5\/z9 cs 0 % 9=6\/z9 cs 0 % 9=7\/z9 cs 0 % 9=8:=by omega
 have hIn:∀ j:Int,(j=0\/j=1\/j=2)->z9 cs 0 % 9=j->∃ X',Iv X' (k+1)/\bd8 X X' cs:=fun j hj hm=>by
  have iv:=h.in_ U (bf1 hcs);refine⟨_,iv,?_⟩;have hh:=eA9 (L:=X.L) h.s;generalize hX:(⟨X.c.inC X.L (stG cs),X.c.inL X.L (stG cs),X.R++X.c.inR X.L (stG cs)⟩:Cs)=X' at iv ⊢;refine a64 (e:=X.c.inE (stG cs)) (n:=0) (is:=false) (tx:=K4) (O:=[]) (pc:=[]) hcs (sp:=kIn) ?_ (eN7 j hj X.c.has X'.c.has fun q=>by rw[<-hX];exact hh q _) hm (bf _) trivial;refine ay5 rfl rfl ay7 ay6 rfl iv hk2 (fv:=fun _ _=> .int .i64 (X.c.inE (stG cs))) (rows:=[]) rfl (fun _ _=>rfl) (fun W N=>?_) (fun W N=>?_)
  .rw[<-hX];exact a82 (c05 W (h.sz hk1) h.r (h.mr hk1) (bf1 hcs) h.s)
  .rw[<-hX];exact a83 (ck2 W (h.sz hk1) h.r (h.mr hk1) (bf1 hcs) h.s)
 have hOut:∀ j:Int,(j=3\/j=4)->z9 cs 0 % 9=j->∃ X',Iv X' (k+1)/\bd8 X X' cs:=fun j hj hm=>by
  have iv:=(h.out h0 U).bU2 (m:=k+1) U;refine⟨_,iv,?_⟩;have hh:X.c.aN5.has=X.c.has:=by
   unfold Cn.aN5;split
   .rfl
   .rw[(aG8 _).2];show X.c.aK9.has=_;rw[Cn.bl9,(Cn.Like.goC h.r.r25.1 _ (Cn.Like.bV0 h.r.d3 h.r.r21.1) (aI _)).e]
  have hh':∀ X':Cs,X'=⟨X.c.aN5,X.L,[]⟩->X'.c.has=X.c.has:=fun X' e=>by rw[e];exact hh
  generalize hX:(⟨X.c.aN5,X.L,[]⟩:Cs)=X' at iv ⊢;refine a64 (e:=0) (n:=0) (is:=false) (tx:=K4) (O:=X.c.aB3 X.L X.R) (pc:=[]) hcs (sp:=bh0) ?_ (by rw[hh' X' hX.symm];exact dt2 j hj X.c.has) hm (bx7 h hk1) trivial;refine ay5 rfl rfl ay7 ay6 rfl iv hk2 (fv:=fun go co=>aC9 go co (X.c.aB3 X.L X.R).length) (rows:=(X.c.aB3 X.L X.R).map sgR) rfl (fun N m=>?_) (fun W N=>?_) (fun W N=>?_)
  .show C.G2 _ N (.slt m 13 i9 (L7 s7) i9)=_;rw[aE6];have e6:(u9 (stE X X' 0 0 false K4 (X.c.aB3 X.L X.R) cs) (L7 s7)).i.toNat=(X.c.aB3 X.L X.R).length:=by
    show((((X.c.aB3 X.L X.R).map sgR).length:Nat):Int).toNat=_;rw[aK,aE]
   rw[e6];exact aD2 _ _ _ _
  .rw[<-hX];exact bm9 W (h.oa hk1)
  .rw[<-hX];exact bY6 W (h.da hk1)
 rcases c9 with q|q|q|q|q|q|q|q|q
 .exact hIn 0 (.inl rfl) q
 .exact hIn 1 (.inr (.inl rfl)) q
 .exact hIn 2 (.inr (.inr rfl)) q
 .exact hOut 3 (.inl rfl) q
 .exact hOut 4 (.inr rfl) q
 ·
  have iv:=(h.ed9 (n:=z9 cs 1)).bU2 (m:=k+1) U;refine⟨_,iv,?_⟩;have hh:=cu2 X.c (z9 cs 1);generalize hX:(⟨X.c.aN4 (z9 cs 1),X.L,X.R⟩:Cs)=X' at iv ⊢;have hh':X'.c.has=X.c.has:=by rw[<-hX];exact hh
  refine a64 (e:=X.c.aW7 (z9 cs 1)) (n:=0) (is:=false) (tx:=K4) (O:=[]) (pc:=[]) hcs (sp:=dM7) ?_ (by rw[hh'];exact dV0 X.c.has) q (bf _) trivial;refine ay5 rfl rfl ay7 ay6 rfl iv hk2 (fv:=fun _ _=> .int .i64 (X.c.aW7 (z9 cs 1))) (rows:=[]) rfl (fun _ _=>rfl) (fun W N=>?_) (fun W N=>?_)
  .rw[<-hX];exact a82 (cL1 W (h.mq hk1) h.r h.s.why (x_i hcs 1 rfl).1 (x_i hcs 1 rfl).2)
  .rw[<-hX];exact a83 (cB6 W (h.mq hk1) h.r (x_i hcs 1 rfl).1 (x_i hcs 1 rfl).2)
 ·
  have iv:=h.eU9 (aB8 cs 4);refine⟨_,iv,?_⟩;have hh:=dr9 X.c (aB8 cs 4);generalize hX:(⟨X.c.wrC (aB8 cs 4),X.L,X.R⟩:Cs)=X' at iv ⊢;have hh':X'.c.has=X.c.has:=by rw[<-hX];exact hh
  refine a64 (e:=X.c.wrE (aB8 cs 4)) (n:=X.c.wrA (aB8 cs 4)) (is:=false) (tx:=K4) (O:=[]) (pc:=[]) hcs (sp:=ci0) ?_ (by rw[hh'];exact cu6 X.c.has) q (bf _) trivial;refine ay5 rfl rfl ay7 ay6 rfl iv hk2 (fv:=fun _ _=> .tuple #[.int .i64 (X.c.wrA (aB8 cs 4)), .int .i64 (X.c.wrE (aB8 cs 4))]) (rows:=[]) rfl (fun _ _=>rfl) (fun W N=>?_) (fun W N=>?_)
  .rw[<-hX];exact a82 (cA9 W (h.mq hk1) h.r _ (x_s hcs 4 rfl))
  .rw[<-hX];exact a83 (bz7 W (h.mq hk1) h.r h.left _ (x_s hcs 4 rfl))
 ·
  have iv:=(h.ee0 (z9 cs 1)).bU2 (m:=k+1) U;refine⟨_,iv,?_⟩;have hh:(X.c.rdC X.L (z9 cs 1)).has=X.c.has:=by unfold Cn.rdC;split<;>rfl
  generalize hX:(⟨X.c.rdC X.L (z9 cs 1),X.L,X.R⟩:Cs)=X' at iv ⊢;have hh':X'.c.has=X.c.has:=by rw[<-hX];exact hh
  refine a64 (e:=X.c.rdE X.L) (n:=0) (is:=X.c.rdB X.L) (tx:=X.c.rdT X.L (z9 cs 1)) (O:=[]) (pc:=[]) hcs (sp:=dN0) ?_ (by rw[hh'];exact dV1 X.c.has) q (bf _) trivial;refine ay5 rfl rfl ay7 ay6 rfl iv hk2 (fv:=fun _ _=> .tuple #[.string (X.c.rdT X.L (z9 cs 1)), .bool (X.c.rdB X.L), .int .i64 (X.c.rdE X.L)]) (rows:=[]) rfl (fun _ _=>rfl) (fun W N=>?_) (fun W N=>?_)
  .rw[<-hX];exact a82 (cM0 W (h.mq hk1) h.r (x_i hcs 1 rfl).1 (x_i hcs 1 rfl).2)
  .rw[<-hX];exact a83 (cB7 W (h.mq hk1) h.r (x_i hcs 1 rfl).1 (x_i hcs 1 rfl).2)
 .cases hon:Y5 cs 3 with
  | true=>
    have iv:=h.eV0.bU2 (m:=k+1) U;refine⟨_,iv,?_⟩;have hh:=eD7 X.c;generalize hX:(⟨X.c.clC,X.L,X.R⟩:Cs)=X' at iv ⊢;have hh':X'.c.has=X.c.has:=by rw[<-hX];exact hh
    refine a64 (e:=X.c.clE) (n:=0) (is:=false) (tx:=K4) (O:=[]) (pc:=[.bv 103]) hcs (sp:=ci1) ?_ (by rw[hh'];exact cu7 X.c.has) q (bf _) ⟨hon,trivial⟩;refine ay5 rfl rfl ay7 ay6 rfl iv hk2 (fv:=fun _ _=> .int .i64 X.c.clE) (rows:=[]) rfl (fun _ _=>rfl) (fun W N=>?_) (fun W N=>?_)
    .rw[<-hX];exact a82 (cC0 W (h.mq hk1) h.r h.s.why)
    .rw[<-hX];exact a83 (b03 W (h.mq hk1) h.r)
  | false=>
    have iv:=h.eV1;refine⟨_,iv,?_⟩;have hh:=eF1 X.c;generalize hX:(⟨X.c.abC,X.L,X.R++X.c.abR⟩:Cs)=X' at iv ⊢;have hh':X'.c.has=X.c.has:=by rw[<-hX];exact hh
    refine a64 (e:=X.c.abE) (n:=0) (is:=false) (tx:=K4) (O:=[]) (pc:=[.not (.bv 103)]) hcs (sp:=ci6) ?_ (by rw[hh'];exact cu8 X.c.has) q (bf _) ⟨by rw[y9];show ¬Y5 cs 3=true;rw[hon];decide,trivial⟩;refine ay5 rfl rfl ay7 ay6 rfl iv hk2 (fv:=fun _ _=> .int .i64 X.c.abE) (rows:=[]) rfl (fun _ _=>rfl) (fun W N=>?_) (fun W N=>?_)
    .rw[<-hX];exact a82 (cC2 W (h.mq hk1) h.r)
    .rw[<-hX];exact a83 (b05 W (h.mq hk1) h.r)
end Go.Proofs.YtnlcpcmdlcakgaaGreat
namespace Go.Proofs.YtnlcpcmdlcakgaaGreat
namespace Sy
open Go Go.RowKit
def aF0(h:Nat):Tm->Bool
 | .iv _| .bv _| .sv _=>true
 | .cv n=>Nat.blt n h
 | .add x y| .sub x y| .mul x y| .dv x y| .md x y| .quo x y| .rem x y| .bop _ _ x y| .byte x y| .lt x y| .le x y| .eq x y| .and x y| .or x y| .seq x y| .bq x y| .app x y=>aF0 h x&&aF0 h y
 | .pw x| .wrap _ x| .len x| .not x| .chr x=>aF0 h x
 | .ap _ x y z| .ite x y z| .cut x y z| .tb _ x y z=>aF0 h x&&(aF0 h y&&aF0 h z)
 | .il _| .bl _| .sl _=>true
def Env.wc(J:Env)(h:Nat)(cs:Nat->List (List Value)):Env:= { J with c:=fun n=>if n<h then J.c n else cs n }
theorem aJ8(J:Env)(h:Nat)(cs:Nat->List (List Value)):∀ t:Tm,aF0 h t=true->u9 (J.wc h cs) t=u9 J t:=by
 intro t
 induction t with
 | iv n=>intro _;rfl
 | bv n=>intro _;rfl
 | sv n=>intro _;rfl
 | cv n=>intro hl;simp only[u9,Env.wc,if_pos (aB1 hl)]
 | tb o x y z hx hy hz=>
   intro hl;simp only[aF0,m5]at hl;simp only[u9,hx hl.1,hy hl.2.1,hz hl.2.2]
 | ap f x y z hx hy hz=>
   intro hl;simp only[aF0,m5]at hl;show(J.wc h cs).f f (u9 _ x) (u9 _ y) (u9 _ z)=_;rw[hx hl.1,hy hl.2.1,hz hl.2.2];rfl
 | ite x y z hx hy hz=>
   intro hl;simp only[aF0,m5]at hl;simp only[u9,hx hl.1,hy hl.2.1,hz hl.2.2]
 | cut x y z hx hy hz=>
   intro hl;simp only[aF0,m5]at hl;simp only[u9,hx hl.1,hy hl.2.1,hz hl.2.2]
 | pw x hx=>intro hl;simp only[u9,hx hl]
 | wrap k x hx=>intro hl;simp only[u9,hx hl]
 | len x hx=>intro hl;simp only[u9,hx hl]
 | not x hx=>intro hl;simp only[u9,hx hl]
 | chr x hx=>intro hl;simp only[u9,hx hl]
 | il n=>intro _;rfl
 | bl n=>intro _;rfl
 | sl n=>intro _;rfl
 | _=>
   rename_i hx hy;intro hl;simp only[aF0,m5]at hl;simp only[u9,hx hl.1,hy hl.2]
def cS1(h:Nat):C->Bool
 | .int _ t| .bool t| .str t=>aF0 h t
 | .slc _ _ a b=>aF0 h a&&aF0 h b
 | .slr _ a b c=>aF0 h a&&(aF0 h b&&aF0 h c)
 | .ptx _ a=>aF0 h a
 | .slt _ _ a b c=>aF0 h a&&(aF0 h b&&aF0 h c)
 | .pta _ _ _ a _=>aF0 h a
 | .ptv a=>aF0 h a
 | .vls a=>aF0 h a
 | .slz _ _ a=>aF0 h a
 | _=>true
theorem cH1{J:Env}{N:Bn}{h:Nat}{cs:Nat->List (List Value)}{x:C}(hl:cS1 h x=true):x.G2 (J.wc h cs) N=x.G2 J N:=by
 cases x<;>simp only[cS1,m5]at hl<;>simp only[C.G2]<;>first
  | rfl
  | rw[aJ8 J h cs _ hl]
  | rw[aJ8 J h cs _ hl.1,aJ8 J h cs _ hl.2]
  | rw[aJ8 J h cs _ hl.1,aJ8 J h cs _ hl.2.1,aJ8 J h cs _ hl.2.2]
def cS0(h:Nat)(l:List C):Bool:=l.all (cS1 h)
theorem a95{J:Env}{N:Bn}{h:Nat}{cs:Nat->List (List Value)}{l:List C}(hl:cS0 h l=true):A5 (J.wc h cs) N l=A5 J N l:=aG fun x hx=>cH1 (av.1 hl x hx)
def c95(h:Nat):V1->Bool
 | .c x=>cS1 h x
 | .agg l=>cS0 h l
theorem cH0{J:Env}{N:Bn}{h:Nat}{cs:Nat->List (List Value)}{x:V1}(hl:c95 h x=true):x.W7 (J.wc h cs) N=x.W7 J N:=by
 cases x with
 | c x=>exact cH1 hl
 | agg l=>simp only[V1.W7];rw[a95 hl]
def dQ6(h:Nat):SV->Bool
 | .one x=>c95 h x
 | .tup l=>l.all (c95 h)
 | .any _=>true
theorem c96{J:Env}{N:Bn}{h:Nat}{cs:Nat->List (List Value)}{x:SV}(hl:dQ6 h x=true):x.A1 (J.wc h cs) N=x.A1 J N:=by
 cases x with
 | one x=>exact cH0 hl
 | tup l=>
   simp only[SV.A1];congr 2;apply aG;intro x hx;exact cH0 (av.1 hl x hx)
 | any n=>rfl
def bi6(h:Nat):Xt->Bool
 | .no=>true
 | .tab _ t=>aF0 h t
 | .arr ins=>ins.all fun x=>aF0 h x.t
 | .mp _ _ _ t=>aF0 h t
 | .own _ t=>aF0 h t
 | .al t=>aF0 h t
theorem cJ4{J:Env}{h:Nat}{vs:Nat->List (List Value)}:∀{ins:List Ins},(ins.all fun x=>aF0 h x.t)=true->∀ cs,aC2 (J.wc h vs) cs ins=aC2 J cs ins
 | [],_,_=>rfl
 | x::l,hl,cs=>by
   simp only[List.all_cons,m5]at hl;simp only[aC2,aJ8 J h vs _ hl.1,cJ4 hl.2]
def cR9(h:Nat)(s:St):Bool:=s.tm.all (dQ6 h)&&(s.hp.all (fun b=>cS0 h b.cs&&((match b.str with|some t=>aF0 h t|none=>true)&&bi6 h b.x))&&(s.cx.bs.all (fun b=>aF0 h b.t)&&s.cx.pc.all (aF0 h)))
theorem Md.wc{J:Env}{S:Nat->Prop}{w0:World}{N0:Bn}{n0:Nat}{s:St}{N:Bn}{a:Act}{w:World}(hM:Md J S w0 N0 n0 s N a w)(h:Nat)(cs:Nat->List (List Value))(hl:cR9 h s=true):Md (J.wc h cs) S w0 N0 n0 s N a w:=by
 unfold cR9 at hl;simp only[m5]at hl;obtain⟨h1,h2,h3,h4⟩:=hl;refine⟨?_,fun b hb=>?_,hM.ne,hM.may,⟨fun x hx=>?_,fun t ht=>?_⟩,hM.only,hM.old⟩
 .rw[hM.act];congr 2;exact aG fun x hx=>(c96 (av.1 h1 x hx)).symm
 .have hb2:=av.1 h2 b hb;have hB:=hM.hp b hb;unfold BkOk at hB ⊢;cases hs:b.str with
  | none=>
    rw[hs]at hB hb2;simp only[m5,true_and]at hB hb2 ⊢;cases hx:b.x with
    | no=>
      rw[hx]at hB;simp only[]at hB ⊢;rw[a95 hb2.1];exact hB
    | tab lv t=>
      rw[hx]at hB hb2;simp only[bi6]at hB hb2 ⊢;rw[aJ8 _ _ _ _ hb2.2];exact hB
    | arr ins=>
      rw[hx]at hB hb2;simp only[bi6]at hB hb2 ⊢;rw[a95 hb2.1,cJ4 hb2.2];exact⟨hB.1,fun x hx=>by rw[aJ8 _ _ _ _ (av.1 hb2.2 x hx)];exact hB.2 x hx⟩
    | mp ks ag v t=>
      rw[hx]at hB hb2;simp only[bi6]at hB hb2 ⊢;rw[aJ8 _ _ _ _ hb2.2];exact hB
    | own k t=>
      rw[hx]at hB hb2;simp only[bi6]at hB hb2 ⊢;rw[aJ8 _ _ _ _ hb2.2];exact hB
    | al t=>
      rw[hx]at hB hb2;simp only[bi6]at hB hb2 ⊢;rw[a95 hb2.1,aJ8 _ _ _ _ hb2.2];exact hB
  | some t=>
    rw[hs]at hB hb2;simp only[m5]at hB hb2 ⊢;rw[aJ8 _ _ _ _ hb2.2.1];exact hB
 .have:=hM.cx.bs x hx;unfold Bd.ok at*;rw[aJ8 _ _ _ _ (av.1 h3 x hx)];exact this
 .rw[aJ8 _ _ _ _ (av.1 h4 t ht)];exact hM.cx.pc t ht
end Sy
end Go.Proofs.YtnlcpcmdlcakgaaGreat
namespace Go.Proofs.YtnlcpcmdlcakgaaGreat
open Go.ChangeShapes Go.WideShapes Go.ChangeAt Go.RowKit
variable{H:Type}{enc:TypeId × Value->H}{P:Program}{w:World}{base:Nat}{spare:Nat->Bool}{held:Bool}
theorem bm3{t e:TypeId}{a:Option Addr}{len cap:Nat}{d:DataW H}{p:List MemPlace}(ht:P.underlying t=some (.slice e))(h:DataW.Trod enc P w base spare held t (.slice a len cap) d p):
 len=0\/∃ elems sp:List (DataW H),d= .slice elems sp/\elems.length=len:=by
 obtain⟨m,h⟩:=h;rcases Go.Deep.open_slice ht h with⟨hcs,_⟩|⟨x,len',cap',m',n',D,Pl,hcs,hb,hl1,hl2,hm,hx,hi⟩
 .left;simp[Value.cells]at hcs;exact hcs.2.1
 .right;simp[Value.cells]at hcs;obtain⟨rfl,rfl,rfl⟩:=hcs;injection hx with h1 h2;exact⟨_,_,h1,by simp⟩
end Go.Proofs.YtnlcpcmdlcakgaaGreat
