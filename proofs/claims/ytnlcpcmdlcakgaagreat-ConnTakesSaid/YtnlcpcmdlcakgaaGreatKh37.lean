/- A part of the proof that a connection answers as the document says: Cg5 Ch0 Ch1. -/
import Derived.Test.YtnlcpcmdlcakgaaGreatKh36
set_option maxRecDepth 100000
set_option maxHeartbeats 4000000
set_option linter.unusedVariables false
set_option linter.unusedSimpArgs false
set_option linter.unusedSectionVars false
open Go.Proofs.Tryz
namespace Go.Proofs.YtnlcpcmdlcakgaaGreat
open Go.RowKit Sy
def cA0(w:World)(g:Nat)(F:List Nat)(X:Cs)(v:Value)(w':World):Prop:=
 ∃ go co F',v=aC9 go co (X.c.aB3 X.L X.R).length/\RowT w' go co 38 aH7 ((X.c.aB3 X.L X.R).map sgR)/\(co≠0->go∈F\/w.heap.size<=go)/\DcP w' g F' ⟨X.c.aN5,X.L,[]⟩/\Only (fun i=>i∈F) w w'/\(∀ i∈F',i∈F\/w.heap.size<=i)/\(co≠0->go∉F')
structure DAsk(X:Cs)(has:Bool):Prop where
 o:OAsk X has
 s:¬X.c.st=0->(has=true->¬X.c.st=1)/\(has=false->X.c.st=1)
section
variable{X:Cs}{J:Env}{d:Cn}{out:List Sg}{k:Nat}{has:Bool}
theorem DI2.cx(I:DI2 X d out J)(B:DAsk X has)(hs:¬X.c.st=0):(drX has).ok J:=by
 have A:=B.o;have hR:=Like.rg I.like A.r A.z.a;obtain⟨l0,l1⟩:=A.lim;have hu:=A.r.d1;have h24:=A.r.r24;have hm:=A.m;have hl:=I.len;have h5:(J.c 5).length=X.R.length:=by rw[I.c5,aE]
 have h21:=I.i21;have h22:=I.i22;have h23:=I.i23;have h24':=I.i24;have h25:=I.i25;have h19:=I.i19;have h29:=I.i29;have hc:=I.cnt;have q21:=hR.r25;have q22:=hR.r26;have q23:=hR.r21;have q24:=hR.r22;have qd:=hR.d3;have q1:=hR.d1;have q2:=hR.d2;have q13:=A.r.r13;have e1:d.una=X.c.una:=by rw[I.like.e]
 have e2:d.now=X.c.now:=by rw[I.like.e]
 have k24':(u9 J w6).i=X.c.una:=by rw[I.e.k rfl];rfl
 have k13':(u9 J V8).i=X.c.now:=by rw[I.e.k rfl];rfl
 have hout:out.length<=1000000:=by omega
 refine⟨Z0 ⟨?_,?_⟩ (Z0 ⟨?_,?_⟩ (Z0 ⟨?_,?_⟩ (Z0 ⟨?_,?_⟩ (Z0 ⟨?_,?_⟩ (Z0 ⟨?_,?_⟩ (Z0 ⟨?_,?_⟩ (Z0 ⟨?_,?_⟩ (Z0 ⟨?_,?_⟩ (Z0 ⟨?_,?_⟩ (Z0 ⟨?_,?_⟩ (Z0 ⟨?_,?_⟩ (I.e.bs A)))))))))))),fun t ht=>?_⟩
 .show 0<=J.i 21;omega
 .show J.i 21<=1152921504606846976;omega
 .show 0<=J.i 22;omega
 .show J.i 22<=1152921504606846976;omega
 .show 0<=J.i 22 - J.i 21;omega
 .show J.i 22 - J.i 21<=1152921504606846976;omega
 .show 0<=J.i 21 - (u9 J w6).i;omega
 .show J.i 21 - (u9 J w6).i<=1152921504606846976;omega
 .show 0<=(u9 J V8).i - J.i 24;omega
 .show(u9 J V8).i - J.i 24<=1099511627776;omega
 .show 0<=J.i 23;omega
 .show J.i 23<=1152921504606846976;omega
 .show 0<=J.i 24;omega
 .show J.i 24<=1099511627776;omega
 .show -4611686018427387904<=J.i 25;omega
 .show J.i 25<=4611686018427387904;omega
 .show 0<=J.i 19;omega
 .show J.i 19<=1099511627760;omega
 .show 0<=J.i 29;omega
 .show J.i 29<=1000000;omega
 .show(0:Int)<=((J.c 5).length:Int);omega
 .show((J.c 5).length:Int)<=1099511627760;omega
 .show(0:Int)<=((J.c 6).length:Int);omega
 .show((J.c 6).length:Int)<=1000000;omega
 .rcases aa.1 ht with rfl|ht
  .rw[E5];show J.i 29<=((J.c 6).length:Int);omega
  rcases aa.1 ht with rfl|ht
  .rw[E5];show((J.c 6).length:Int)<=J.i 29;omega
  rcases aa.1 ht with rfl|ht
  .rw[E5];show J.i 19<=((J.c 5).length:Int);omega
  rcases aa.1 ht with rfl|ht
  .rw[E5];show((J.c 5).length:Int)<=J.i 19;omega
  rcases aa.1 ht with rfl|ht
  .rw[y9,A9,I.e.k rfl];exact hs
  .rw[ah.1 ht];obtain⟨s1,s2⟩:=B.s hs;cases has with
   | true=>
     show(u9 J (.not qb8)).b=true;rw[y9,A9,I.e.k rfl];exact s1 rfl
   | false=>
     show(u9 J qb8).b=true;rw[A9,I.e.k rfl];exact s2 rfl
theorem DI2.eL3(I:DI2 X d out J)(hp:(u9 J (.not qdy)).b=true)(hd:d.cur<=d.snt)(N:Bn)(u:Nat->Value):d.ou.pN d.cur X.c.K3 d.mss/\DI2 X d out { J.L5 N dEx with u:=u }:=by
 have hNj:d.ou.pN d.cur X.c.K3 d.mss:=by
  rw[y9,I.is]at hp;unfold Ou.pIs at hp;by_cases q:d.ou.pN d.cur X.c.K3 d.mss
  .exact q
  .exact absurd (aD q) hp
 have he:d.ou.aB6 X.c.K3 d.mss=d.cur:=by
  have s1:d.ou.aB5 d.cur X.c.K3 d.mss=false:=by unfold Ou.aB5;exact aH fun q=>q.1 hNj
  have s2:d.ou.aI0 d.cur X.c.K3 d.mss=false:=by unfold Ou.aI0;rw[if_pos (.inl hNj)]
  have s3:(d.ou.aD6 d.cur X.c.K3 d.mss).size=0:=by unfold Ou.aD6;rw[if_pos (.inl hNj)];rfl
  unfold Ou.aB6;have e3:d.ou.cur=d.cur:=rfl;rw[e3,s1,s2,s3];have k0:b2 false=0:=rfl;omega
 refine⟨hNj,⟨I.e.g,I.e.f,I.e.o,I.e.c0,I.e.c1,I.e.c2⟩,I.like,?_,?_,I.i23,I.i24,I.i25,I.i19,I.i29,I.c5,I.c6,I.all,I.fin,I.cnt⟩
 .show(u9 J dEn).i=_;rw[I.cA1,he]
 .show(u9 J dFa).i=_;rw[I.far,he];omega
theorem DI2.ee7(I:DI2 X d out J)(hh:X.c.has=has):(u9 J (as4 has)).c=[sgR (d.bI0 X.L d.snt)]:=by
 have E:=I.e;have e0:(u9 J k0).i=X.c.la:=by rw[E.k rfl];rfl
 have e1:(u9 J k1).i=X.c.lp:=by rw[E.k rfl];rfl
 have e2:(u9 J k2).i=X.c.ra:=by rw[E.k rfl];rfl
 have e3:(u9 J k3).i=X.c.rp:=by rw[E.k rfl];rfl
 have e6:(u9 J k6).i=X.c.iss:=by rw[E.k rfl];rfl
 have eA:(u9 J (oAk has)).i=if has then X.c.a22 X.L else 0:=by
  cases has with
  | false=>rfl
  | true=>
    rw[E.k rfl];show(X.c.irs+Z8 X.L X.c.rd X.c.fin % 4294967296) % 4294967296=(X.c.irs+Z8 X.L X.c.rd X.c.fin) % 4294967296;omega
 have eW:(u9 J (oWi has)).i=if has then X.c.bU4 X.L else 2048:=by
  cases has with
  | false=>rfl
  | true=>rw[E.k rfl];rfl
 have eS:(u9 J qfe).i=(X.c.iss+d.snt) % 4294967296:=by
  show((u9 J k6).i+J.i 22 % 4294967296) % 4294967296=_;rw[e6,I.i22];omega
 unfold as4;rw[bh6,e0,e1,e2,e3,eS,eA,eW,I.like.eM1];subst hh;rfl
theorem OI1.cs5(I:OI1 X X.R.length J)(hr:RgX X.c){n rows l:Tm}(hn:(u9 J n).i=((X.c.aI1 X.L).length:Int))(hrow:(u9 J rows).c=(X.c.aI1 X.L).map sgR)(hl:(u9 J l).i=X.c.K3)(N:Bn)(u:Nat->Value):
 DI2 X X.c (X.c.aI1 X.L) { J.L5 N (dE0 n rows l)with u:=u }:=by
 have h1:=hr.d3;have h2:=hr.r21.1;have c5:=I.c5;rw[List.take_length]at c5;refine⟨⟨I.e.g,I.e.f,I.e.o,I.e.c0,I.e.c1,I.e.c2⟩,Cn.Like.bV0 h1 h2,?_,?_,?_,?_,hl,I.i19,hn,c5,hrow,?_,rfl,?_⟩
 .show(u9 J y4).i=_;rw[I.e.k rfl];rfl
 .show(u9 J y5).i=_;rw[I.e.k rfl];rfl
 .show(u9 J k21).i=_;rw[I.e.k rfl];rfl
 .show(u9 J k22).i=_;rw[I.e.k rfl];rfl
 .rw[Cn.cK7]
 .have:(X.c.aI1 X.L).length<=1:=by
   unfold Cn.aI1;split
   .exact aI _
   .exact bf _
  omega
theorem OI1.ed8(I:OI1 X X.R.length J)(A:OAsk X has)(h1:(u9 J k19).b=true)(h2:(u9 J (.ap 114 kOu w6 kLo)).b=true){m:Tm}(hm:(u9 J m).i=if X.c.ou.aB5 X.c.una X.c.snt X.c.mss then X.c.own else 0):
 (u9 J l9).i=((X.c.aI1 X.L).length:Int)/\(u9 J (aU3 kOu w6 kLo has m)).c=(X.c.aI1 X.L).map sgR:=by
 rw[I.e.k rfl]at h1 h2;change X.c.again=true at h1;change X.c.ou.pIs X.c.una X.c.snt X.c.mss=true at h2;unfold Ou.pIs at h2;have h2:=of_decide_eq_true h2;have e1:X.c.aI1 X.L=[X.c.aP4 X.L X.c.una X.c.snt]:=by
  unfold Cn.aI1;rw[if_pos ⟨h1,h2⟩]
 have hO:aM5 (hd (u9 J kOu))=X.c.ou:=by rw[I.e.k rfl];rfl
 have ha:(u9 J w6).i=X.c.una:=by rw[I.e.k rfl];rfl
 have hb:z9 (hd (u9 J kLo)) 0=X.c.snt:=by rw[I.e.k rfl];rfl
 have hs:z9 (hd (u9 J kLo)) 1=X.c.mss:=by rw[I.e.k rfl];rfl
 rw[e1];exact⟨rfl,a85 I.e hO ha hb hs (Cn.Like.bV0 A.r.d3 A.r.r21.1) A.hh hm⟩
theorem OI1.eU8(h:¬(X.c.again=true/\¬X.c.ou.pN X.c.una X.c.snt X.c.mss)):(u9 J i9).i=((X.c.aI1 X.L).length:Int)/\(u9 J tn).c=(X.c.aI1 X.L).map sgR:=by
 have e1:X.c.aI1 X.L=[]:=by
  unfold Cn.aI1;rw[if_neg h]
 rw[e1];exact⟨rfl,rfl⟩
theorem OE.m1(E:OE X J)(A:OAsk X has)(h:(u9 J (.not qew)).b=true):(u9 J l9).i=X.c.K3:=by
 rw[y9,A7,E.k (t:=w6) rfl]at h;have h':¬0<X.c.una:=h;have:=A.r.r24;exact(dM3 U).symm
theorem OE.m2(E:OE X J)(h:(u9 J qew).b=true):(u9 J (.add w6 qdq)).i=X.c.K3:=by
 rw[A7,E.k (t:=w6) rfl]at h;have h':0<X.c.una:=h;have e20:(u9 J (.ite k20 l9 i9)).i=b2 X.c.prb:=by rw[aw0,E.k (t:=k20) rfl];rfl
 rw[cO5 U,z7,ae3,ai1,e20,E.k (t:=w6) rfl,E.k (t:=k35) rfl,E.k (t:=A2) rfl];show X.c.una+max (b2 X.c.prb) (min X.c.cz X.c.wnd)=X.c.una+max (b2 X.c.prb) (min X.c.wnd X.c.cz);omega
theorem DI2.ee5(I:DI2 X d out J)(hNj:d.ou.pN d.cur X.c.K3 d.mss):out=X.c.aW8 X.L/\d=X.c.aK9:=by
 obtain⟨g1,g2⟩:=Cn.bM6 (L:=X.L) hNj;refine⟨?_,?_⟩
 .have:=I.all;rw[g1,ao]at this;exact this
 .have:=I.fin;rw[g2]at this;exact this
end
structure RwA(J:Env)(b:Nat)(X:Cs):Prop where
 c:J.c b=[K9 X.c]
 L:J.c (b+1)=X.L
 R:J.c (b+2)=Y3 X.R
theorem RwA.hd{J:Env}{b:Nat}{X:Cs}(h:RwA J b X):hd (u9 J (.cv b))=K9 X.c:=by
 show(J.c b).headD []=_;rw[h.c];rfl
def bW3:List Tm->List Tm->Bool
 | [],[]=>true
 | x::l,y::m=>E7 x y&&bW3 l m
 | _,_=>false
theorem bm4:∀{a b:List Tm},bW3 a b=true->a=b
 | [],[],_=>rfl
 | x::l,y::m,h=>by
   unfold bW3 at h;rw[m5]at h;rw[H9 h.1,bm4 h.2]
 | [],y::m,h=>by cases h
 | x::l,[],h=>by cases h
def eA0:List Tm->Bool
 | []=>true
 | _=>false
theorem dd2{l:List Tm}(h:eA0 l=true):l=[]:=by
 cases l with
 | nil=>rfl
 | cons x l=>cases h
def bh2(b:Nat)(has:Bool)(rd:Cr):Bool:=eA0 rd.ms&&((if has then rd.has else !rd.has)&&(bW3 rd.ts (tsY (.cv b) has)&&((!has||E7 rd.L (.cv (b+1)))&&E7 rd.R (.cv (b+2)))))
structure IsAt(b:Nat)(has:Bool)(rd:Cr):Prop where
 ms:rd.ms=[]
 hs:rd.has=has
 ts:rd.ts=tsY (.cv b) has
 L:has=true->rd.L= .cv (b+1)
 R:rd.R= .cv (b+2)
theorem bJ7{b:Nat}{has:Bool}{rd:Cr}(h:bh2 b has rd=true):IsAt b has rd:=by
 unfold bh2 at h;simp only[m5]at h;obtain⟨h1,h2,h3,h4,h5⟩:=h;refine⟨dd2 h1,?_,bm4 h3,fun q=>?_,H9 h5⟩
 .cases has with
  | true=>exact h2
  | false=>cases q:rd.has with
    | true=>rw[q]at h2;cases h2
    | false=>rfl
 .subst q;exact H9 (by simpa using h4)
structure Fx where
 f:FuncId
 args:List SV
 b:Nat
 a:Nat
 has:Bool
 has':Bool
 t:Tm
 v:Nat->SV
def FxP(P:World->Nat->List Nat->Cs->Prop)(fv:Nat->Nat->Value)(rows:Rws)(w:World)(g:Nat)(F:List Nat)(X':Cs)(v:Value)(w':World):Prop:=
 ∃ go co F',v=fv go co/\RowT w' go co 38 aH7 rows/\(co≠0->go∈F\/w.heap.size<=go)/\P w' g F' X'/\Only (fun i=>i∈F) w w'/\(∀ i∈F',i∈F\/w.heap.size<=i)/\(co≠0->go∉F')
theorem cg6{J:Env}(hf:J.f=cnF){b:Nat}{X:Cs}(h:RwA J b X){has:Bool}(hh:X.c.has=has){rd:Cr}(A:IsAt b has rd){w:World}{g:Nat}{a:Pa}(W:PcW w g a ⟨cnT J rd.ts,(u9 J rd.L).c,rsL (u9 J rd.R).c⟩):PcW w g a X:=by
 have e:=bK2 hf h.hd hh;rw[A.ts,A.R,e]at W;refine W.cZ7 (fun n=>rfl) rfl ⟨rfl,rfl,rfl⟩ rfl (fun q=>⟨rfl,rfl,?_⟩) (fun q=>⟨rfl,rfl,rfl⟩) ?_
 .have q:X.c.has=true:=q;rw[A.L (hh.symm.trans q)];exact h.L.symm
 .show X.R=rsL (J.c (b+2));rw[h.R,A4]
def dO5(F:Fx)(s:Sy.St):List SV->Option Did
 | .one (.c (.ptr l 0))::xs=>match crP s l with
   | some rd=>if bh2 F.b F.has rd&&as8 xs F.args then
      some ⟨[],rd.drops,[ah8 l (s.nx+2) F.has' (tsY (.cv F.a) F.has') (.cv (F.a+2))],⟨s.nx,38,[],true,none, .tab aH7 F.t⟩::aU2 (s.nx+2) F.has' (tsY (.cv F.a) F.has') (.cv (F.a+1)) (.cv (F.a+2)),F.v s.nx,[],none⟩
     else none
   | none=>none
 | _=>none
def c07(F:Fx):Sy.Spec:=R4 F.f (dO5 F)
theorem cF7{J:Env}(hf:J.f=cnF)(hO:J.o=cnO){F:Fx}{X X':Cs}{fv:Nat->Nat->Value}{rows:Rws}(hb:RwA J F.b X)(ha:RwA J F.a X')(hh:X.c.has=F.has)(hh':X'.c.has=F.has')(ht:(u9 J F.t).c=rows)
 (hv:∀(N:Bn) (n:Nat),(F.v n).A1 J N=fv (N n) (N (n+1)))
 (H:∀{w:World} {g:Nat} {a:Pa},PcW w g a X->∀ N:Bn,Calls prog F.f (#[.pointer (some ⟨g,0,none⟩)]++(F.args.map (SV.A1 J N)).toArray) w (F7 (FxP PcP fv rows w g (X4 a g F.has) X'))):(c07 F).Ok prog J:=by
 refine U1 fun{s xs d} hs hc hm {N w} hb0 hne=>?_
 unfold dO5 at hs;split at hs
 .rename_i l xs;split at hs
  .rename_i rd hr;split at hs
   .rename_i hq;rw[m5]at hq;obtain⟨hA,hT⟩:=hq;have eT:=aw4 hT;subst eT;injection hs with hs;subst hs;have A:=bJ7 hA;obtain⟨a,K⟩:=bY9 hO hr hc cj hb0 hne;have W:=cg6 hf hb hh A K.W;refine⟨aG5 _,?_⟩;have e:((.one (.c (.ptr l 0))::F.args).map (SV.A1 J N)).toArray=#[.pointer (some ⟨N l,0,none⟩)]++(F.args.map (SV.A1 J N)).toArray:=by simp;rfl
    rw[e];refine(H W N).mono ?_;rintro e w' ⟨v,rfl,go,co,F',rfl,hRT,h1,⟨a',W',rfl⟩,ho,hF,h2⟩;have T:Tells J F.has' (tsY (.cv F.a) F.has') (.cv (F.a+1)) (.cv (F.a+2)) X':=bV7 hf ha.hd hh' (fun _=>ha.L) ha.R;rw[hh']at hF h2;have hl:l+1<s.nx:=K.lt;obtain⟨N1,hN1⟩:∃ x,E8 (E8 N s.nx go) (s.nx+1) co=x:=⟨_,rfl⟩;have e1:∀ k,k<s.nx->N1 k=N k:=fun k hk=>by rw[<-hN1,B3 U,B3 U]
    have el:N1 l=N l:=e1 l U;have eg:V0 N1 (s.nx+2) a' s.nx=go:=by rw[a30 _ _ _ U,<-hN1,B3 U,K7]
    have ec:V0 N1 (s.nx+2) a' (s.nx+1)=co:=by rw[a30 _ _ _ U,<-hN1,K7]
    have D':=W'.nd;rw[hh']at D';have D:=paD D';have hin:N l∈X4 a' (N l) F.has':=ae ..;have rh:=A.hs;refine⟨V0 N1 (s.nx+2) a',?_,ho.aj6 fun i _ hi=>?_,fun k hk=>by rw[a30 _ _ _ U,e1 k hk],fun b hb=>?_,fun b hb=>?_,fun b hb=>bG,fun b hb hr i hi'=>?_,fun x hx y hy hxy rx ry=>?_,fun x hx b hb=>bG⟩
    .rw[hv,eg,ec]
    .rw[<-rh]at hi;rcases K.cov i hi with rfl|⟨d,hd,hm,_,hr,hfp⟩
     .exact .inl ⟨_,ae ..,rfl⟩
     .exact .inr (.inl ⟨d,hd,aE0.1 hm,hr,hfp⟩)
    .rw[ah.1 hb];exact bf4 U T (by rw[el];exact W')
    .rcases aa.1 hb with rfl|hb
     .show RowT w' (V0 N1 (s.nx+2) a' s.nx) (V0 N1 (s.nx+2) a' (s.nx+1)) 38 aH7 (u9 J F.t).c;rw[eg,ec,ht];exact hRT
     .exact bi1 hO T W' b hb
    .have key:∀ k,k∈X4 a (N l) F.has\/w.heap.size<=k->k≠N l->(∃ d∈s.hp,d.l∈rd.drops/\d.G0 N/\fp N d k)\/w.heap.size<=k:=fun k q hk=>by
      rcases q with q|q
      .rw[<-rh]at q;rcases K.cov k q with e|⟨d,hd,hm,_,hr,hfp⟩
       .exact absurd e hk
       .exact .inl ⟨d,hd,aE0.1 hm,hr,hfp⟩
      .exact .inr q
     rcases aa.1 hb with rfl|hb
     .have e:=Q9 (show Bk.own ⟨s.nx,38,[],true,none, .tab aH7 F.t⟩=false from rfl) hi';rw[show i=go from e.trans eg];have hc:V0 N1 (s.nx+2) a' (s.nx+1)≠0:=hr.resolve_left fun e=>Bool.noConfusion (show true=false from e)
      rw[ec]at hc;exact key go (h1 hc) fun e=>h2 hc (e ▸ hin)
     .obtain⟨q1,q2⟩:=a38 (g:=N l) W'.oF hb hr hi';exact key i (hF i q1) (q2 D)
    .have tabne:∀ y∈aU2 (s.nx+2) F.has' (tsY (.cv F.a) F.has') (.cv (F.a+1)) (.cv (F.a+2)),y.G0 (V0 N1 (s.nx+2) a')->Bk.G0 (V0 N1 (s.nx+2) a') ⟨s.nx,38,[],true,none, .tab aH7 F.t⟩->apart (V0 N1 (s.nx+2) a') ⟨s.nx,38,[],true,none, .tab aH7 F.t⟩ y:=fun y hy ry rt k kt ky=>by
      have e:=Q9 (show Bk.own ⟨s.nx,38,[],true,none, .tab aH7 F.t⟩=false from rfl) kt;have hc:V0 N1 (s.nx+2) a' (s.nx+1)≠0:=rt.resolve_left fun e=>Bool.noConfusion (show true=false from e)
      rw[ec]at hc;have e':k=go:=e.trans eg;subst e';exact h2 hc (a38 (g:=N l) W'.oF hy ry ky).1
     rcases aa.1 hx with rfl|hx<;>rcases aa.1 hy with rfl|hy
     .exact absurd rfl hxy
     .exact tabne y hy ry rx
     .exact(tabne x hx rx ry).b91
     .exact bi2 W'.oF D x hx y hy hxy rx ry
   .cases hs
  .cases hs
 .cases hs
theorem ck3{J:Env}(hf:J.f=cnF){b:Nat}{X:Cs}(h:RwA J b X){has:Bool}(hh:X.c.has=has){rd:Cr}(A:IsAt b has rd){w:World}{g:Nat}{a:Da}(W:DcW w g a ⟨cnT J rd.ts,(u9 J rd.L).c,rsL (u9 J rd.R).c⟩):DcW w g a X:=by
 have e:=bK2 hf h.hd hh;rw[A.ts,A.R,e]at W;refine W.ca2 (fun n=>rfl) ⟨rfl,rfl,rfl⟩ rfl (fun q=>⟨rfl,rfl,?_⟩) (fun q=>⟨rfl,rfl,rfl⟩) ?_
 .have q:X.c.has=true:=q;rw[A.L (hh.symm.trans q)];exact h.L.symm
 .show X.R=rsL (J.c (b+2));rw[h.R,A4]
def dO7(F:Fx)(s:Sy.St):List SV->Option Did
 | .one (.c (.ptr l 0))::xs=>match crD s l with
   | some rd=>if bh2 F.b F.has rd&&as8 xs F.args then
      some ⟨[],rd.drops,[aX3 l (s.nx+2) F.has' (tsY (.cv F.a) F.has') (.cv (F.a+2))],⟨s.nx,38,[],true,none, .tab aH7 F.t⟩::aX4 (s.nx+2) F.has' (tsY (.cv F.a) F.has') (.cv (F.a+1)) (.cv (F.a+2)),F.v s.nx,[],none⟩
     else none
   | none=>none
 | _=>none
def c10(F:Fx):Sy.Spec:=R4 F.f (dO7 F)
theorem cG0{J:Env}(hf:J.f=cnF)(hO:J.o=cnO){F:Fx}{X X':Cs}{fv:Nat->Nat->Value}{rows:Rws}(hb:RwA J F.b X)(ha:RwA J F.a X')(hh:X.c.has=F.has)(hh':X'.c.has=F.has')(ht:(u9 J F.t).c=rows)
 (hv:∀(N:Bn) (n:Nat),(F.v n).A1 J N=fv (N n) (N (n+1)))
 (H:∀{w:World} {g:Nat} {a:Da},DcW w g a X->∀ N:Bn,Calls prog F.f (#[.pointer (some ⟨g,0,none⟩)]++(F.args.map (SV.A1 J N)).toArray) w (F7 (FxP DcP fv rows w g (Y8 a g F.has) X'))):(c10 F).Ok prog J:=by
 refine U1 fun{s xs d} hs hc hm {N w} hb0 hne=>?_
 unfold dO7 at hs;split at hs
 .rename_i l xs;split at hs
  .rename_i rd hr;split at hs
   .rename_i hq;rw[m5]at hq;obtain⟨hA,hT⟩:=hq;have eT:=aw4 hT;subst eT;injection hs with hs;subst hs;have A:=bJ7 hA;obtain⟨a,K⟩:=bZ0 hO hr hc cj hb0 hne;have W:=ck3 hf hb hh A K.W;refine⟨aG5 _,?_⟩;have e:((.one (.c (.ptr l 0))::F.args).map (SV.A1 J N)).toArray=#[.pointer (some ⟨N l,0,none⟩)]++(F.args.map (SV.A1 J N)).toArray:=by simp;rfl
    rw[e];refine(H W N).mono ?_;rintro e w' ⟨v,rfl,go,co,F',rfl,hRT,h1,⟨a',W',rfl⟩,ho,hF,h2⟩;have T:TellsD J F.has' (tsY (.cv F.a) F.has') (.cv (F.a+1)) (.cv (F.a+2)) X':=bE1 hf ha.hd hh' (fun _=>ha.L) ha.R;rw[hh']at hF h2;have hl:l+1<s.nx:=K.lt;obtain⟨N1,hN1⟩:∃ x,E8 (E8 N s.nx go) (s.nx+1) co=x:=⟨_,rfl⟩;have e1:∀ k,k<s.nx->N1 k=N k:=fun k hk=>by rw[<-hN1,B3 U,B3 U]
    have el:N1 l=N l:=e1 l U;have eg:X0 N1 (s.nx+2) a' s.nx=go:=by rw[ao9 _ _ _ U,<-hN1,B3 U,K7]
    have ec:X0 N1 (s.nx+2) a' (s.nx+1)=co:=by rw[ao9 _ _ _ U,<-hN1,K7]
    have D':=W'.nd;rw[hh']at D';have D:=D';have hin:N l∈Y8 a' (N l) F.has':=ae ..;have rh:=A.hs;refine⟨X0 N1 (s.nx+2) a',?_,ho.aj6 fun i _ hi=>?_,fun k hk=>by rw[ao9 _ _ _ U,e1 k hk],fun b hb=>?_,fun b hb=>?_,fun b hb=>bG,fun b hb hr i hi'=>?_,fun x hx y hy hxy rx ry=>?_,fun x hx b hb=>bG⟩
    .rw[hv,eg,ec]
    .rw[<-rh]at hi;rcases K.cov i hi with rfl|⟨d,hd,hm,_,hr,hfp⟩
     .exact .inl ⟨_,ae ..,rfl⟩
     .exact .inr (.inl ⟨d,hd,aE0.1 hm,hr,hfp⟩)
    .rw[ah.1 hb];exact a84 U T (by rw[el];exact W')
    .rcases aa.1 hb with rfl|hb
     .show RowT w' (X0 N1 (s.nx+2) a' s.nx) (X0 N1 (s.nx+2) a' (s.nx+1)) 38 aH7 (u9 J F.t).c;rw[eg,ec,ht];exact hRT
     .exact a86 hO T W' b hb
    .have key:∀ k,k∈Y8 a (N l) F.has\/w.heap.size<=k->k≠N l->(∃ d∈s.hp,d.l∈rd.drops/\d.G0 N/\fp N d k)\/w.heap.size<=k:=fun k q hk=>by
      rcases q with q|q
      .rw[<-rh]at q;rcases K.cov k q with e|⟨d,hd,hm,_,hr,hfp⟩
       .exact absurd e hk
       .exact .inl ⟨d,hd,aE0.1 hm,hr,hfp⟩
      .exact .inr q
     rcases aa.1 hb with rfl|hb
     .have e:=Q9 (show Bk.own ⟨s.nx,38,[],true,none, .tab aH7 F.t⟩=false from rfl) hi';rw[show i=go from e.trans eg];have hc:X0 N1 (s.nx+2) a' (s.nx+1)≠0:=hr.resolve_left fun e=>Bool.noConfusion (show true=false from e)
      rw[ec]at hc;exact key go (h1 hc) fun e=>h2 hc (e ▸ hin)
     .obtain⟨q1,q2⟩:=ab2 (g:=N l) (W'.iF hh') hb hr hi';exact key i (hF i q1) (q2 D)
    .have tabne:∀ y∈aX4 (s.nx+2) F.has' (tsY (.cv F.a) F.has') (.cv (F.a+1)) (.cv (F.a+2)),y.G0 (X0 N1 (s.nx+2) a')->Bk.G0 (X0 N1 (s.nx+2) a') ⟨s.nx,38,[],true,none, .tab aH7 F.t⟩->apart (X0 N1 (s.nx+2) a') ⟨s.nx,38,[],true,none, .tab aH7 F.t⟩ y:=fun y hy ry rt k kt ky=>by
      have e:=Q9 (show Bk.own ⟨s.nx,38,[],true,none, .tab aH7 F.t⟩=false from rfl) kt;have hc:X0 N1 (s.nx+2) a' (s.nx+1)≠0:=rt.resolve_left fun e=>Bool.noConfusion (show true=false from e)
      rw[ec]at hc;have e':k=go:=e.trans eg;subst e';exact h2 hc (ab2 (g:=N l) (W'.iF hh') hy ry ky).1
     rcases aa.1 hx with rfl|hx<;>rcases aa.1 hy with rfl|hy
     .exact absurd rfl hxy
     .exact tabne y hy ry rx
     .exact(tabne x hx rx ry).b91
     .exact a87 (W'.iF hh') D x hx y hy hxy rx ry
   .cases hs
  .cases hs
 .cases hs
def cM8(has:Bool):List Bk:=a12 0 2 has (tsY j8 has) j5 j6++a10 20 22 has (tsY j8 has) j5 j6
def prB(g:Nat)(a:Pa)(h:Nat)(d:Da):Bn:=X0 (E8 (V0 (fun _=>g) 2 a) 20 h) 22 d
def prS(g:Nat)(a:Pa)(h:Nat)(d:Da)(has:Bool):Nat->Prop:=fun i=>i∈X4 a g has\/i∈Y8 d h has
def b98(S:Nat->Prop)(w:World)(g h:Nat)(X':Cs)(w':World):Prop:=∃ F G,PcP w' g F X'/\DcP w' h G X'/\(∀ i∈F,i∉G)/\Only S w w'/\(∀ i∈F,S i\/w.heap.size<=i)/\(∀ i∈G,S i\/w.heap.size<=i)
section
variable{g h:Nat}{a:Pa}{d:Da}
theorem bX1{k:Nat}(hk:k<20):prB g a h d k=V0 (fun _=>g) 2 a k:=by
 unfold prB;rw[ao9 _ _ _ U,B3 U]
theorem cM9:prB g a h d 0=g:=bX1 U
theorem a29:prB g a h d 20=h:=by
 unfold prB;rw[ao9 _ _ _ U,K7]
theorem dw8(has:Bool):((a12 0 2 has (tsY j8 has) j5 j6).all fun b=>Nat.blt (b.l+1) 20&&ltL 20 b.cs)=true:=by
 cases has<;>rfl
theorem bm1{α:Type}{P:α->Prop}:∀{l:List α},(∀ x∈l,P x)->aC6 P l
 | [],_=>trivial
 | x::l,h=>⟨h x (ae ..),bm1 fun y hy=>h y (aj _ hy)⟩
theorem dL3{J:Env}(hf:J.f=cnF)(hO:J.o=cnO){X:Cs}(hr:RwA J 0 X){has:Bool}(hh:X.c.has=has){w:World}(W:PcW w g a X)(V:DcW w h d X)(hd:∀ i∈X4 a g has,i∉Y8 d h has){cx:Cx}(hc:cx.ok J):
 Md J (prS g a h d has) w (prB g a h d) 40 ⟨[],cM8 has,cx,40⟩ (prB g a h d) ⟨#[],[]⟩ w:=by
 have T:Tells J has (tsY j8 has) j5 j6 X:=bV7 hf hr.hd hh (fun _=>hr.L) hr.R;have T':TellsD J has (tsY j8 has) j5 j6 X:=bE1 hf hr.hd hh (fun _=>hr.L) hr.R;have M:=cN0 hO W T hc;have D:=V.nd;rw[hh]at D;have hi:=V.iF hh;have low:∀ b∈a12 0 2 has (tsY j8 has) j5 j6,prB g a h d b.l=V0 (fun _=>g) 2 a b.l/\prB g a h d (b.l+1)=V0 (fun _=>g) 2 a (b.l+1)/\A5 J (prB g a h d) b.cs=A5 J (V0 (fun _=>g) 2 a) b.cs:=fun b hb=>by
  have:=av.1 (dw8 has) b hb;rw[m5]at this;have h1:b.l+1<20:=aB1 this.1;exact⟨bX1 U,bX1 h1,aj3 J (fun l hl=>bX1 hl) this.2⟩
 have realC:∀ b∈a12 0 2 has (tsY j8 has) j5 j6,b.G0 (prB g a h d)->b.G0 (V0 (fun _=>g) 2 a):=fun b hb q=>q.imp id fun q=>by rw[<-(low b hb).2.1];exact q
 have fpC:∀ b∈a12 0 2 has (tsY j8 has) j5 j6,b.G0 (prB g a h d)->∀ k,fp (prB g a h d) b k->k∈X4 a g has:=fun b hb q k hk=>by
  have q':=realC b hb q;have hk':=(Z9 (low b hb).1 (low b hb).2.2 k).1 hk;rcases M.may b hb (by
   rcases aa.1 hb with rfl|hb
   .rfl
   .unfold aU2 at hb;cases has with
    | true=>simp only[if_true]at hb;rcases hb with _|⟨_,_|⟨_,_|⟨_,_|⟨_,_|⟨_,hb⟩⟩⟩⟩⟩<;>first|rfl|cases hb
    | false=>simp only[ax,if_false]at hb;rcases hb with _|⟨_,_|⟨_,_|⟨_,hb⟩⟩⟩<;>first|rfl|cases hb) q' k hk' with r|r
  .exact r
  .exact absurd ((M.hp b hb).ax9 q' hk') U
 have fpD:∀ b∈a10 20 22 has (tsY j8 has) j5 j6,b.G0 (prB g a h d)->∀ k,fp (prB g a h d) b k->k∈Y8 d h has:=fun b hb q k hk=>by
  rcases aa.1 hb with rfl|hb
  .have e:=Q9 (show Bk.own (aX3 20 22 has (tsY j8 has) j6)=false from rfl) hk;rw[show k=h from e.trans a29];exact ae ..
  .exact(ab2 (g:=h) hi hb q hk).1
 have apD:∀ x∈a10 20 22 has (tsY j8 has) j5 j6,∀ y∈a10 20 22 has (tsY j8 has) j5 j6,x.l≠y.l->x.G0 (prB g a h d)->y.G0 (prB g a h d)->apart (prB g a h d) x y:=fun x hx y hy hxy rx ry=>by
  rcases aa.1 hx with rfl|hx<;>rcases aa.1 hy with rfl|hy
  .exact absurd rfl hxy
  .intro k kx ky;have e:=Q9 (show Bk.own (aX3 20 22 has (tsY j8 has) j6)=false from rfl) kx;exact(ab2 (g:=h) hi hy ry ky).2 D (e.trans a29)
  .intro k kx ky;have e:=Q9 (show Bk.own (aX3 20 22 has (tsY j8 has) j6)=false from rfl) ky;exact(ab2 (g:=h) hi hx rx kx).2 D (e.trans a29)
  .exact a87 hi D x hx y hy hxy rx ry
 refine⟨rfl,fun b hb=>?_,fun x hx y hy hxy rx ry=>?_,fun b hb _ hr k hk=> .inl ?_,hc,Only.aF4 _ _,fun _ _=>rfl⟩
 .rcases aC.1 hb with hb|hb
  .exact(M.hp b hb).at7 (low b hb).1 (fun _=>(low b hb).2.1) (low b hb).2.2
  .rcases aa.1 hb with rfl|hb
   .exact a84 (N:=E8 (V0 (fun _=>g) 2 a) 20 h) (l:=20) bA T' (by rw[K7];exact V)
   .exact a86 hO T' V b hb
 .rcases aC.1 hx with hx|hx<;>rcases aC.1 hy with hy|hy
  .have q:=M.ne x hx y hy hxy (realC x hx rx) (realC y hy ry);exact fun k kx ky=>q k ((Z9 (low x hx).1 (low x hx).2.2 k).1 kx) ((Z9 (low y hy).1 (low y hy).2.2 k).1 ky)
  .exact fun k kx ky=>hd k (fpC x hx rx k kx) (fpD y hy ry k ky)
  .exact fun k kx ky=>hd k (fpC y hy ry k ky) (fpD x hx rx k kx)
  .exact apD x hx y hy hxy rx ry
 .rcases aC.1 hb with hb|hb
  .exact .inl (fpC b hb hr k hk)
  .exact .inr (fpD b hb hr k hk)
end
def bQ5(v:Option SV):Bool:=match v with
 | some (.one (.c (.bool (.bl true))))=>true
 | _=>false
theorem bh1{v:Option SV}(h:bQ5 v=true):v=some qaa:=by
 unfold bQ5 at h;split at h
 .rfl
 .cases h
def cL3(has:Bool)(s:Sy.St):Bool:=match crP ⟨[],s.hp,s.cx,s.nx⟩ 0,crD ⟨[],s.hp,s.cx,s.nx⟩ 20 with
 | some r,some q=>bh2 3 has r&&(bh2 3 has q&&(0::r.drops).all fun x=> !(aS3 x (20::q.drops)))
 | _,_=>false
def eX7(P:Program)(fn:Func)(has:Bool):Lf->Bool
 | .must _ _=>false
 | .out (.exit _) _=>false
 | .out _ s=>bQ5 (aD7 P s fn.results.toList)&&cL3 has s
def ae9(P:Program)(fn:Func)(has:Bool):Rs->Bool
 | .ok l=>l.all (eX7 P fn has)
 | .error _=>false
theorem dV4{J:Env}(hf:J.f=cnF)(hO:J.o=cnO){X':Cs}(h3:RwA J 3 X'){has:Bool}(hh:X'.c.has=has){S:Nat->Prop}{w w':World}{N0 N:Bn}{s:Sy.St}{a:Act}(hM:Md J S w N0 40 s N a w')(h:cL3 has s=true):b98 S w (N0 0) (N0 20) X' w':=by
 unfold cL3 at h;split at h
 .rename_i r q hr hq;simp only[m5]at h;obtain⟨h1,h2,h4⟩:=h;have A:=bJ7 h1;have B:=bJ7 h2;have hH:Hp J S w N0 40 s.hp N w':=⟨hM.hp,hM.ne,hM.may,hM.only,hM.old⟩;obtain⟨a1,K1,e1,f1⟩:=bP7 hO hH hr hM.cx cj bA;obtain⟨a2,K2,e2,f2⟩:=bR0 hO hH hq hM.cx (by rw[B.ms];intro t ht;cases ht) bA;have W1:=cg6 hf h3 hh A K1.W;have W2:=ck3 hf h3 hh B K2.W;have g1:=A.hs;have g2:=B.hs;rw[e1]at W1 f1;rw[e2]at W2 f2;rw[g1]at f1;rw[g2]at f2;refine⟨X4 a1 (N0 0) has,Y8 a2 (N0 20) has,⟨a1,W1,by rw[hh]⟩,⟨a2,W2,by rw[hh]⟩,fun i hi hj=>?_,hM.only,f1,f2⟩;have c1:=K1.cov i (by rw[e1,g1];exact hi);have c2:=K2.cov i (by rw[e2,g2];exact hj);have no:∀ x∈0::r.drops,∀ y∈20::q.drops,x≠y:=fun x hx y hy e=>by
   have:=av.1 h4 x hx;rw[e,aE0.2 hy]at this;cases this
  have b1:∃ b∈s.hp,b.l∈0::r.drops/\b.G0 N/\fp N b i:=by
   rcases c1 with rfl|⟨b,hb,hm,_,hr,hf⟩
   .obtain⟨b,hb,hl,hn,_,_⟩:=K1.root;exact⟨b,hb,by rw[hl];exact ae .., .inl hn,by rw[<-hl];exact I4 N b⟩
   .exact⟨b,hb,aj _ (aE0.1 hm),hr,hf⟩
  have b2:∃ b∈s.hp,b.l∈20::q.drops/\b.G0 N/\fp N b i:=by
   rcases c2 with rfl|⟨b,hb,hm,_,hr,hf⟩
   .obtain⟨b,hb,hl,hn,_,_⟩:=K2.root;exact⟨b,hb,by rw[hl];exact ae .., .inl hn,by rw[<-hl];exact I4 N b⟩
   .exact⟨b,hb,aj _ (aE0.1 hm),hr,hf⟩
  obtain⟨x,hx,lx,rx,fx⟩:=b1;obtain⟨y,hy,ly,ry,fy⟩:=b2;exact hM.ne x hx y hy (no _ lx _ ly) rx ry i fx fy
 .cases h
theorem cx5{sp:List Sy.Spec}{J:Env}(hg:J.R8)(hf:J.f=cnF)(hO:J.o=cnO)(hsp:∀ q∈sp,q.Ok prog J){f:FuncId}{fn:Func}(hfn:prog.funcs[f]? =some fn)(hb:fn.body.isSome=true){has has':Bool}{cx:Cx}{xs:List SV}
 (hrun:ae9 prog fn has' (R6 prog sp 10 400 40 (.code (y7 fn)) (L3 fn (.one (.c (.ptr 0 0)):: .one (.c (.ptr 20 0))::xs) ⟨[],cM8 has,cx,40⟩))=true)
 {X X':Cs} (h0:RwA J 0 X) (h3:RwA J 3 X') (hh:X.c.has=has) (hh':X'.c.has=has') {w:World} {g h:Nat} {a:Pa} {d:Da} (W:PcW w g a X) (V:DcW w h d X) (hd:∀ i∈X4 a g has,i∉Y8 d h has) (hc:cx.ok J)
 {args:Array Value} (hargs:args=#[.pointer (some ⟨g,0,none⟩), .pointer (some ⟨h,0,none⟩)]++(xs.map (SV.A1 J (prB g a h d))).toArray):Calls prog f args w (F7 fun v w'=>v= .bool true/\b98 (prS g a h d has) w g h X' w'):=by
 have hM:=dL3 hf hO h0 hh W V hd hc;unfold ae9 at hrun;split at hrun
 .rename_i l hl;have hb':fn.body=some (y7 fn):=by unfold y7;cases q:fn.body with
   | none=>rw[q]at hb;cases hb
   | some c=>rfl
  refine aq0 (B:=⟨J,prS g a h d has,w,prB g a h d,40⟩) hg hsp 10 400 hfn hb' hl hM (R:=fun v w'=>v= .bool true/\b98 (prS g a h d has) w g h X' w') (bm1 fun x hx=>?_) ?_
  .have hx:=av.1 hrun x hx;have key:∀ s:Sy.St,(bQ5 (aD7 prog s fn.results.toList)&&cL3 has' s)=true->aD7 prog s fn.results.toList=some qaa /\∀ N a' w',Md J (prS g a h d has) w (prB g a h d) 40 s N a' w'->(SV.one (.c (.bool l6))).A1 J N= .bool true/\b98 (prS g a h d has) w g h X' w':=fun s q=>by
    rw[m5]at q;refine⟨bh1 q.1,fun N a' w' hM=>⟨rfl,?_⟩⟩;have:=dV4 hf hO h3 hh' hM q.2;rw[cM9,a29]at this;exact this
   cases x with
   | must t s=>cases hx
   | out e s=>
     cases e with
     | exit n=>cases hx
     | normal=>obtain⟨q1,q2⟩:=key s hx;unfold Lf.ag4;simp only;rw[q1];exact q2
     | ret=>obtain⟨q1,q2⟩:=key s hx;unfold Lf.ag4;simp only;rw[q1];exact q2
  .rw[hargs];have p0:SV.A1 J (prB g a h d) qc9 = .pointer (some ⟨g,0,none⟩):=by show Value.pointer (some ⟨prB g a h d 0,0,none⟩)=_;rw[cM9]
   have p1:SV.A1 J (prB g a h d) (.one (.c (.ptr 20 0)))= .pointer (some ⟨h,0,none⟩):=by show Value.pointer (some ⟨prB g a h d 20,0,none⟩)=_;rw[a29]
   rw[aW,aW,p0,p1];simp
 .cases hrun
end Go.Proofs.YtnlcpcmdlcakgaaGreat
