/- A part of the proof that a connection answers as the document says: CnQ CnR CnG. -/
import Derived.Test.YtnlcpcmdlcakgaaGreatKh25
set_option maxRecDepth 100000
set_option maxHeartbeats 4000000
set_option linter.unusedVariables false
set_option linter.unusedSimpArgs false
set_option linter.unusedSectionVars false
open Go.Proofs.Tryz
namespace Go.Proofs.YtnlcpcmdlcakgaaGreat
open Go.RowKit Sy
def ac7(r f L:Tm):Tm:= .tb .app (zI r (zI f qao)) L i9
def bh3(s:Sy.St)(l:Nat):Option (TypeId × Nat × Tm × Tm × Tm):=match ay9 s l with
 | some (ty,fl,1,true, .tb .app (.tb (.cons (.int .i64)) r (.tb (.cons (.int .i64)) f (.tb .row (.il 0) (.il 0) (.il 0)) (.il 0)) (.il 0)) L (.il 0))=>some (ty,fl,r,f,L)
 | _=>none
structure InAt(J:Env)(N:Bn)(w:World)(s:Sy.St)(l:Nat)(ty:TypeId)(fl:Nat)(r f L:Tm):Prop where
 mem:ownB l fl 1 ty (ac7 r f L)∈s.hp
 lt:l+1<s.nx
 P:InP w (N l) (u9 J r).i (u9 J f).i (u9 J L).c
 F:∀ i,(N fl).testBit i=true↔i∈[N l]
theorem bJ8{J:Env}(hO:J.o=cnO){N:Bn}{w:World}{s:Sy.St}{l:Nat}{ty:TypeId}{fl:Nat}{r f L:Tm}(h:bh3 s l=some (ty,fl,r,f,L))(hb:∀ b∈s.hp,BkOk J N w b):InAt J N w s l ty fl r f L:=by
 unfold bh3 at h;split at h
 .rename_i ty' fl' r' f' L' hg;injection h with h;injection h with h1 h;injection h with h2 h;injection h with h3 h;injection h with h4 h5;subst h1 h2 h3 h4 h5;obtain⟨hm,hl⟩:=ak6 hg;have B:(J.o 1).P w (N l) (fun i=>(N fl').testBit i=true) (u9 J (ac7 r' f' L')).c:=hb _ hm;rw[hO]at B;obtain⟨hP,hF⟩:=B;exact⟨hm,hl,hP,fun i=>(hF i).trans ah.symm⟩
 .cases h
theorem cj2{J:Env}(hO:J.o=cnO){N:Bn}{w w':World}{s:Sy.St}{l:Nat}{ty:TypeId}{fl:Nat}{r f L:Tm}(A:InAt J N w s l ty fl r f L){r' f' L':Tm}(hG:dJ1 w w' (N l) (u9 J r').i (u9 J f').i (u9 J L').c):
 ∃ N',Chg J N N' w w' s [] [] [] (some (ownB l s.nx 1 ty (ac7 r' f' L'))):=by
 refine⟨_,au0 A.lt (aI _) A.mem A.F (F':=[N l]) ?_ (hG.2.aj6 fun i _ hi=>ah.2 hi) fun i hi=> .inl hi⟩
 rw[hO];exact⟨hG.1,fun i=>ah⟩
def bJ9(ans:Tm->Tm->Tm->SV)(bs:Tm->Tm->Tm->List Bd)(s:Sy.St):List SV->Option Did
 | [.one (.c (.ptr l 0))]=>match bh3 s l with
   | some (ty,fl,r,f,L)=>some ⟨[],[],[],[],ans r f L,bs r f L,none⟩
   | none=>none
 | _=>none
theorem InP.bd{w:World}{g:Nat}{r f:Int}{L:Rws}(h:InP w g r f L):(1<=r/\r<=1153202979583557632)/\(0<=f/\f<=1153202979583557632)/\(r<=L1 L r/\L1 L r<=r+2048)/\(r<=Z8 L r f/\Z8 L r f<=r+2049)/\aB2 L/\Q7 L<=1153202979583557632:=by
 obtain⟨s,hB,hR,rfl⟩:=h;obtain⟨n1,n2,n3,n4,n5,n6⟩:=hR.am3;have h1:=hR.r1;have h2:=hR.rk;have h3:=hR.f0;have h4:=hR.f1;have h5:=hR.next;exact⟨⟨h1,h2⟩,⟨h3,h4⟩,by omega,by omega,hR.g,hR.k⟩
theorem a81{J:Env}(hO:J.o=cnO){f:FuncId}{ans:Tm->Tm->Tm->SV}{bs:Tm->Tm->Tm->List Bd}(V:Int->Int->Rws->Value)
 (H:∀{w g r fn L},InP w g r fn L->Calls prog f #[.pointer (some ⟨g,0,none⟩)] w (F7 fun v w'=>v=V r fn L/\Below w.heap.size w w'))
 (hV:∀{r fn L N},(ans r fn L).A1 J N=V (u9 J r).i (u9 J fn).i (u9 J L).c) (hB:∀{r fn L w g},InP w g (u9 J r).i (u9 J fn).i (u9 J L).c->X5 J (bs r fn L)):(R4 f (bJ9 ans bs)).Ok prog J:=by
 refine U1 fun{s xs d} hs hc hm {N w} hb hne=>?_
 unfold bJ9 at hs;split at hs
 .rename_i l;split at hs
  .rename_i ty fl r fn L ho;injection hs with hs;subst hs;have A:=bJ8 hO ho hb;refine⟨hB A.P,?_⟩;refine(H A.P).mono ?_;rintro e w' ⟨v,rfl,rfl,hbel⟩;exact⟨N,by rw[hV],bX5 hbel⟩
  .cases hs
 .cases hs
def nxT(r f L:Tm):Tm:= .ap 33 L r f
def aZ3(r L:Tm):Tm:= .ap 131 L r i9
def dN9:Sy.Spec:=R4 87 (bJ9 (fun r f L=>sI1 (nxT r f L)) fun r f L=>[B61 (nxT r f L)])
def dN8:Sy.Spec:=R4 75 (bJ9 (fun r f L=> .one (.c (.bool (.ap 34 L r f)))) fun _ _ _=>[])
def dN6:Sy.Spec:=R4 73 (bJ9 (fun r f L=>sI1 (aZ3 r L)) fun r f L=>[⟨aZ3 r L,0,2048⟩])
def ds5(r L:Tm):Tm:= .sub o7 (aZ3 r L)
def dN4:Sy.Spec:=R4 86 (bJ9 (fun r f L=>sI1 (ds5 r L)) fun r f L=>[⟨aZ3 r L,0,2048⟩])
def cj0(s:Sy.St):List SV->Option Did
 | [.one (.c (.ptr l 0)), .one (.c (.int .i64 a)), .one (.c (.str b)), .one (.c (.bool ff))]=>match bh3 s l with
   | some (ty,fl,r,f,L)=>some ⟨aU6 s.cx a++F9 s.cx (.le (Q6 s.cx b) qcb),[],[],[], .one (.c (.bool (.ap 52 L (aF6 r f a b ff) i9))),[⟨.ap 51 L (aF6 r f a b ff) i9,0,1153202979583557632⟩],some (ownB l s.nx 1 ty (ac7 r (.ap 51 L (aF6 r f a b ff) i9) (.ap 50 L (aF6 r f a b ff) i9)))⟩
   | none=>none
 | _=>none
def ci9(s:Sy.St):List SV->Option Did
 | [.one (.c (.ptr l 0)), .one (.c (.int .i64 a))]=>match bh3 s l with
   | some (ty,fl,r,f,L)=>some ⟨aU6 s.cx a,[],[],[], .one (.c (.str (.ap 55 L (aH4 r a) i9))),[⟨.ap 58 L (aH4 r a) i9,0,1153202979583557632⟩],some (ownB l s.nx 1 ty (ac7 (.ap 58 L (aH4 r a) i9) f L))⟩
   | none=>none
 | _=>none
def dN7:Sy.Spec:=R4 125 cj0
def dN5:Sy.Spec:=R4 74 ci9
section
variable{J:Env}(hf:J.f=cnF)(hO:J.o=cnO)
include hf
theorem bs4(r f L:Tm):(u9 J (nxT r f L)).i=Z8 (u9 J L).c (u9 J r).i (u9 J f).i:=by unfold nxT;rw[F3 hf];rfl
theorem a27(r L:Tm):(u9 J (aZ3 r L)).i=L1 (u9 J L).c (u9 J r).i - (u9 J r).i:=by unfold aZ3;rw[F3 hf];rfl
theorem dx9(r f L:Tm):(u9 J (.ap 34 L r f)).b=Z3 (u9 J L).c (u9 J r).i (u9 J f).i:=by rw[F3 hf];rfl
theorem dL2(r f a b ff L:Tm):(u9 J (.ap 50 L (aF6 r f a b ff) i9)).c=W8 (u9 J L).c (u9 J r).i (u9 J f).i (u9 J a).i (u9 J b).s:=by rw[F3 hf];rfl
theorem bs3(r f a b ff L:Tm):(u9 J (.ap 51 L (aF6 r f a b ff) i9)).i=aF7 (u9 J L).c (u9 J r).i (u9 J f).i (u9 J a).i (u9 J b).s (u9 J ff).b:=by rw[F3 hf];rfl
theorem dL1(r f a b ff L:Tm):(u9 J (.ap 52 L (aF6 r f a b ff) i9)).b=ah4 (u9 J L).c (u9 J r).i (u9 J f).i (u9 J a).i (u9 J b).s (u9 J ff).b:=by rw[F3 hf];rfl
theorem dt8(r a L:Tm):(u9 J (.ap 55 L (aH4 r a) i9)).s=rdS (aP5 (u9 J L).c) (u9 J r).i (rdN (u9 J L).c (u9 J r).i (u9 J a).i).toNat:=by rw[F3 hf];rfl
theorem cM1(r a L:Tm):(u9 J (.ap 58 L (aH4 r a) i9)).i=(u9 J r).i+rdN (u9 J L).c (u9 J r).i (u9 J a).i:=by rw[F3 hf];rfl
include hO
theorem c01:dN9.Ok prog J:=by
 refine a81 hO (fun r f L=>aw1 (Z8 L r f)) c04 (aD3 (bs4 hf ..)) fun{r f L w g} hP x hx=>?_
 rw[ah.1 hx];show 0<=(u9 J (nxT r f L)).i/\(u9 J (nxT r f L)).i<=2305843009213693952;rw[bs4 hf];have:=hP.bd;omega
theorem c00:dN8.Ok prog J:=a81 hO (fun r f L=> .bool (Z3 L r f)) c03 (au8 (dx9 hf ..)) fun _=>aG5 _
omit hO in
theorem ce9{r L:Tm}{f:Int}{w:World}{g:Nat}(hP:InP w g (u9 J r).i f (u9 J L).c):X5 J [⟨aZ3 r L,0,2048⟩]:=fun x hx=>by
 rw[ah.1 hx];show 0<=(u9 J (aZ3 r L)).i/\(u9 J (aZ3 r L)).i<=2048;rw[a27 hf];have:=hP.bd;omega
theorem cz8:dN6.Ok prog J:=a81 hO (fun r f L=>aw1 (L1 L r - r)) cj1 (aD3 (a27 hf ..)) fun hP=>ce9 hf hP
theorem cz6:dN4.Ok prog J:=a81 hO (fun r f L=>aw1 (2048 - (L1 L r - r))) cP1 (aD3 (by show 2048 - (u9 J (aZ3 _ _)).i=_;rw[a27 hf])) fun hP=>ce9 hf hP
theorem cz9:dN7.Ok prog J:=by
 refine U1 fun{s xs d} hs hc hm {N w} hb hne=>?_
 unfold cj0 at hs;split at hs
 .rename_i l a b ff;split at hs
  .rename_i ty fl r f L ho;injection hs with hs;subst hs;have A:=bJ8 hO ho hb;have ha:=aE4 hc hm.l;have hbs:=B2 (z0 hc hm.r);rw[Q8 hc]at hbs;have hbs':(u9 J b).s.size<=140737488355328:=by
    have e:(u9 J qcb).i=140737488355328:=rfl;omega
   have hC:=de5 A.P (ff:=(u9 J ff).b) ha.1 ha.2 hbs';have hfin:0<=(u9 J (.ap 51 L (aF6 r f a b ff) i9)).i/\(u9 J (.ap 51 L (aF6 r f a b ff) i9)).i<=1153202979583557632:=by
    rw[bs3 hf];obtain⟨q1,q2,q3,q4,q5,q6⟩:=A.P.bd;have hi:RpIn (u9 J L).c (u9 J r).i (u9 J f).i (u9 J a).i (u9 J b).s:=⟨q5,q6,by omega,q1.2,q2.1,q2.2,ha.1,ha.2,hbs'⟩;obtain⟨s',hB',hR',hr'⟩:=A.P;have:=(cE2 hR' (at_:=(u9 J a).i) (body:=(u9 J b).s) (ff:=(u9 J ff).b) ha.1 ha.2 hbs').1;rw[hr']at this;exact⟨this.f0,this.f1⟩
   refine⟨fun x hx=>by rw[ah.1 hx];exact hfin,?_⟩;refine hC.mono ?_;rintro e w' ⟨v,rfl,rfl,hG⟩;rw[<-dL2 hf r f a b ff L,<-bs3 hf r f a b ff L]at hG;obtain⟨N',hc'⟩:=cj2 hO A hG;exact⟨N',congrArg Ending.returned (au8 (dL1 hf r f a b ff L).symm),hc'⟩
  .cases hs
 .cases hs
theorem cz7:dN5.Ok prog J:=by
 refine U1 fun{s xs d} hs hc hm {N w} hb hne=>?_
 unfold ci9 at hs;split at hs
 .rename_i l a;split at hs
  .rename_i ty fl r f L ho;injection hs with hs;subst hs;have A:=bJ8 hO ho hb;have ha:=aE4 hc hm;have hC:=c02 A.P ha.1 ha.2;refine⟨fun x hx=>?_,?_⟩
   .rw[ah.1 hx];show 0<=(u9 J (.ap 58 L (aH4 r a) i9)).i/\(u9 J (.ap 58 L (aH4 r a) i9)).i<=1153202979583557632;rw[cM1 hf];obtain⟨q1,q2,q3,q4,q5,q6⟩:=A.P.bd;obtain⟨s',hB',hR',hr'⟩:=A.P;have:=(bw9 hR' (u9 J a).i).1.rk;have e:(u9 J r).i+rdN (u9 J L).c (u9 J r).i (u9 J a).i<=1153202979583557632:=by rw[<-hr'];exact this
    refine⟨?_,e⟩;unfold rdN;omega
   refine hC.mono ?_;rintro e w' ⟨v,rfl,rfl,hG⟩;rw[<-cM1 hf r a L]at hG;obtain⟨N',hc'⟩:=cj2 hO A hG;refine⟨N',congrArg Ending.returned ?_,hc'⟩;show _=Value.string (u9 J (.ap 55 L (aH4 r a) i9)).s;rw[dt8 hf]
  .cases hs
 .cases hs
end
def tmC(m s d:Tm):Tm:=zI m (zI s (zI d qao))
def tmG(s:Sy.St)(l:Nat):Option (TypeId × Nat × Tm × Tm × Tm):=match ay9 s l with
 | some (ty,fl,2,true, .tb (.cons (.int .i64)) m (.tb (.cons (.int .i64)) p (.tb (.cons (.int .i64)) d (.tb .row (.il 0) (.il 0) (.il 0)) (.il 0)) (.il 0)) (.il 0))=>some (ty,fl,m,p,d)
 | _=>none
structure TmAt(J:Env)(N:Bn)(w:World)(s:Sy.St)(l:Nat)(ty:TypeId)(fl:Nat)(m p d:Tm):Prop where
 mem:ownB l fl 2 ty (tmC m p d)∈s.hp
 lt:l+1<s.nx
 P:TmP w (N l) (u9 J m).i (u9 J p).i (u9 J d).i
 F:∀ i,(N fl).testBit i=true↔i∈[N l]
theorem bV6{J:Env}(hO:J.o=cnO){N:Bn}{w:World}{s:Sy.St}{l:Nat}{ty:TypeId}{fl:Nat}{r f L:Tm}(h:tmG s l=some (ty,fl,r,f,L))(hb:∀ b∈s.hp,BkOk J N w b):TmAt J N w s l ty fl r f L:=by
 unfold tmG at h;split at h
 .rename_i ty' fl' r' f' L' hg;injection h with h;injection h with h1 h;injection h with h2 h;injection h with h3 h;injection h with h4 h5;subst h1 h2 h3 h4 h5;obtain⟨hm,hl⟩:=ak6 hg;have B:(J.o 2).P w (N l) (fun i=>(N fl').testBit i=true) (u9 J (tmC r' f' L')).c:=hb _ hm;rw[hO]at B;obtain⟨hP,hF⟩:=B;exact⟨hm,hl,hP,fun i=>(hF i).trans ah.symm⟩
 .cases h
theorem cb0{J:Env}(hO:J.o=cnO){N:Bn}{w w':World}{s:Sy.St}{l:Nat}{ty:TypeId}{fl:Nat}{r f L:Tm}(A:TmAt J N w s l ty fl r f L){r' f' L':Tm}(hG:TmP w' (N l) (u9 J r').i (u9 J f').i (u9 J L').i)(hW:Only (· =N l) w w'):
 ∃ N',Chg J N N' w w' s [] [] [] (some (ownB l s.nx 2 ty (tmC r' f' L'))):=by
 refine⟨_,au0 A.lt (aI _) A.mem A.F (F':=[N l]) ?_ (hW.aj6 fun i _ hi=>ah.2 hi) fun i hi=> .inl hi⟩
 rw[hO];exact⟨hG,fun i=>ah⟩
def a02(m p d:Tm):Tm:= .ap 102 m p d
def cb1(s:Sy.St):List SV->Option Did
 | [.one (.c (.ptr l 0))]=>match tmG s l with
   | some (ty,fl,m,p,d)=>some ⟨[],[],[],[], .tup [],[⟨.ap 107 d i9 i9,0,6⟩],some (ownB l s.nx 2 ty (tmC m p (.ap 107 d i9 i9)))⟩
   | none=>none
 | _=>none
def ca7(s:Sy.St):List SV->Option Did
 | [.one (.c (.ptr l 0))]=>match tmG s l with
   | some (ty,fl,m,p,d)=>some ⟨[],[],[],[],sI1 (a02 m p d),[⟨a02 m p d,2,64⟩],none⟩
   | none=>none
 | _=>none
def smM(m p d r:Tm):Tm:= .ap 104 m p (pr2 d r)
def smS(m p d r:Tm):Tm:= .ap 105 m p (pr2 d r)
def smD(m p d r:Tm):Tm:= .ap 106 m p (pr2 d r)
def ca8(s:Sy.St):List SV->Option Did
 | [.one (.c (.ptr l 0)), .one (.c (.int .i64 r))]=>match tmG s l with
   | some (ty,fl,m,p,d)=>some ⟨F9 s.cx (.le i9 r)++F9 s.cx (.le r qck),[],[],[],sI1 i9,[⟨smM m p d r,-1,8796093022208⟩,⟨smS m p d r,0,4398046511104⟩,⟨smD m p d r,0,6⟩],some (ownB l s.nx 2 ty (tmC (smM m p d r) (smS m p d r) (smD m p d r)))⟩
   | none=>none
 | _=>none
def dK3:Sy.Spec:=R4 109 cb1
def dK1:Sy.Spec:=R4 67 ca7
def dK2:Sy.Spec:=R4 120 ca8
theorem TmP.bd{w:World}{g:Nat}{m p d:Int}(h:TmP w g m p d):(0<=d/\d<=6)/\(0<=p/\p<=4398046511104)/\(m= -1\/(0<=m/\m<=8796093022208)):=by
 obtain⟨k,m',h1,h2,h3,h4⟩:=h;exact⟨h2,h3,by omega⟩
section
variable{J:Env}(hf:J.f=cnF)(hO:J.o=cnO)
include hf
theorem bV4(m p d:Tm):(u9 J (a02 m p d)).i=aT5 (decide (0<=(u9 J m).i)) (u9 J m).i (u9 J p).i (u9 J d).i:=by unfold a02;rw[F3 hf];rfl
theorem bs5(d:Tm):(u9 J (.ap 107 d i9 i9)).i=aK1 (u9 J d).i:=by rw[F3 hf];rfl
theorem br8(m p d r:Tm):(u9 J (smM m p d r)).i=(smp (u9 J m).i (u9 J p).i (u9 J d).i (u9 J r).i).1:=by unfold smM;rw[F3 hf];rfl
theorem br7(m p d r:Tm):(u9 J (smS m p d r)).i=(smp (u9 J m).i (u9 J p).i (u9 J d).i (u9 J r).i).2.1:=by unfold smS;rw[F3 hf];rfl
theorem br9(m p d r:Tm):(u9 J (smD m p d r)).i=(smp (u9 J m).i (u9 J p).i (u9 J d).i (u9 J r).i).2.2:=by unfold smD;rw[F3 hf];rfl
omit hf in
theorem bn4(n:Int):2<=ap0 n/\ap0 n<=64:=by unfold ap0;split<;>(try split)<;>omega
include hO
theorem cu1:dK3.Ok prog J:=by
 refine U1 fun{s xs d} hs hc hm {N w} hb hne=>?_
 unfold cb1 at hs;split at hs
 .rename_i l;split at hs
  .rename_i ty fl m p d ho;injection hs with hs;subst hs;have A:=bV6 hO ho hb;refine⟨fun x hx=>?_,?_⟩
   .rw[ah.1 hx];show 0<=(u9 J (.ap 107 d i9 i9)).i/\(u9 J (.ap 107 d i9 i9)).i<=6;rw[bs5 hf];have:=A.P.bd;unfold aK1;split<;>omega
   .refine(dT6 A.P).mono ?_;rintro e w' ⟨v,rfl,rfl,h1,h2⟩;rw[<-bs5 hf]at h1;obtain⟨N',hc'⟩:=cb0 hO A h1 h2;exact⟨N',rfl,hc'⟩
  .cases hs
 .cases hs
theorem ct8:dK1.Ok prog J:=by
 refine U1 fun{s xs d} hs hc hm {N w} hb hne=>?_
 unfold ca7 at hs;split at hs
 .rename_i l;split at hs
  .rename_i ty fl m p d ho;injection hs with hs;subst hs;have A:=bV6 hO ho hb;refine⟨fun x hx=>?_,?_⟩
   .rw[ah.1 hx];show 2<=(u9 J (a02 m p d)).i/\(u9 J (a02 m p d)).i<=64;rw[bV4 hf];exact bn4 _
   .refine(cu0 A.P).mono ?_;rintro e w' ⟨v,rfl,rfl,h1⟩;exact⟨N,congrArg Ending.returned (aD3 (bV4 hf m p d).symm),bX5 h1⟩
  .cases hs
 .cases hs
theorem ct9:dK2.Ok prog J:=by
 refine U1 fun{s xs d} hs hc hm {N w} hb hne=>?_
 unfold ca8 at hs;split at hs
 .rename_i l r;split at hs
  .rename_i ty fl m p d ho;injection hs with hs;subst hs;have A:=bV6 hO ho hb;have h1:0<=(u9 J r).i:=B2 (z0 hc hm.l);have h2:(u9 J r).i<=1099511627776:=B2 (z0 hc hm.r);obtain⟨b1,b2,b3⟩:=A.P.bd;obtain⟨c1,c2,c3⟩:=bV9 (r:=(u9 J r).i) b1 b2 b3;refine⟨fun x hx=>?_,?_⟩
   .rcases aa.1 hx with rfl|hx
    .show -1<=(u9 J (smM m p d r)).i/\(u9 J (smM m p d r)).i<=8796093022208;rw[br8 hf];omega
    rcases aa.1 hx with rfl|hx
    .show 0<=(u9 J (smS m p d r)).i/\(u9 J (smS m p d r)).i<=4398046511104;rw[br7 hf];omega
    .rw[ah.1 hx];show 0<=(u9 J (smD m p d r)).i/\(u9 J (smD m p d r)).i<=6;rw[br9 hf];omega
   .refine(ca9 A.P (u9 J r).i).mono ?_;rintro e w' ⟨v,rfl,rfl,g1,g2⟩;rw[<-br8 hf,<-br7 hf,<-br9 hf]at g1;obtain⟨N',hc'⟩:=cb0 hO A g1 g2;refine⟨N',?_,hc'⟩;rw[if_neg U];rfl
  .cases hs
 .cases hs
end
def cL0(c:Cx)(a:Tm):List Tm:=F9 c (.le i9 a)++F9 c (.le a (.il 4294967295))
theorem be8{J:Env}{c:Cx}(hc:c.ok J){a:Tm}(h:Sy.Met J (cL0 c a)):0<=(u9 J a).i/\(u9 J a).i<=4294967295:=⟨B2 (z0 hc h.l),B2 (z0 hc h.r)⟩
def bJ1(n a:Tm):Tm:= .ap 100 n a i9
def bg8(f:FuncId):Sy.Spec:=aa1 f (fun c xs=>match xs with
    | [.one (.c (.int .u32 n)), .one (.c (.int .i64 a))]=>some (cL0 c n)
    | _=>none) (fun _ xs=>match xs with
    | [.one (.c (.int .u32 n)), .one (.c (.int .i64 a))]=>some (sI1 (bJ1 n a),[⟨bJ1 n a,-2147483648,1152921506754330623⟩])
    | _=>none)
def c80(a l b m:Tm):Tm:= .ap 101 a l (pr2 b m)
def b15(f:FuncId):Sy.Spec:=aa1 f (fun c xs=>match xs with
    | [.one (.c (.int .u32 a)), .one (.c (.int .i64 l)), .one (.c (.int .u32 b)), .one (.c (.int .i64 m))]=>some (cL0 c a++(cL0 c b++(aU6 c l++aU6 c m)))
    | _=>none) (fun _ xs=>match xs with
    | [.one (.c (.int .u32 a)), .one (.c (.int .i64 l)), .one (.c (.int .u32 b)), .one (.c (.int .i64 m))]=>some (.one (.c (.bool (c80 a l b m))),[])
    | _=>none)
def bE7(c:Cx)(s b f:Tm):Tm:=U0 (U0 (Q6 c s) (aw2 c b)) (aw2 c f)
def by8(f:FuncId):Sy.Spec:=aa1 f (fun c xs=>match xs with
    | [.one (.agg [_,_,_,_,_,_, .bool _,_, .bool _,_,_,_, .str s])]=>some (F9 c (.le (Q6 c s) (.il 4611686018427387904)))
    | _=>none) (fun c xs=>match xs with
    | [.one (.agg [_,_,_,_,_,_, .bool b,_, .bool f,_,_,_, .str s])]=>some (sI1 (bE7 c s b f),[⟨bE7 c s b f,0,4611686018427387906⟩])
    | _=>none)
theorem bJ2{J:Env}{c:Cx}(hc:c.ok J)(s b f:Tm):(u9 J (bE7 c s b f)).i=((u9 J s).s.size:Int)+b2 (u9 J b).b+b2 (u9 J f).b:=by
 unfold bE7;rw[X2,X2,Q8 hc,az4 hc,az4 hc];rfl
def lnS:Sy.St:=⟨[],[],⟨[⟨.len l7,0,4611686018427387904⟩],[]⟩,4⟩
def lnC:List C:=[.opq 0, .opq 1, .opq 2, .opq 3, .opq 4, .opq 5, .bool o9, .opq 6, .bool (.bv 1), .opq 7, .opq 8, .opq 9, .str l7]
theorem dT7:smR prog f52 4 (R6 prog [] 10 400 4 (.code (y7 f52)) (L3 f52 [.one (.agg lnC)] lnS))=some (fq8 [.b o9,.b (.bv 1),.l (.ret (.one (.c (.int .i64 (.add qbo u0)))) []),.l (.ret (.one (.c (.int .i64 qe6))) []),.b (.bv 1),.l (.ret (.one (.c (.int .i64 qe6))) []),.l (.ret (.one (.c (.int .i64 qbo))) [])] [[]]):=by kernel_rfl
theorem dW5:smR prog f54 4 (R6 prog [a41] 10 400 4 (.code (y7 f54)) (L3 f54 [.one (.agg lnC)] lnS))=some [(.ret (.one (.c (.int .i64 (.add qda (.ite (.bv 1) l9 i9))))) [] [])]:=by kernel_rfl
theorem dU0(v:Nat->Value)(hv:∀ i,(v i).oneCell'=true)(b f:Bool)(s:ByteArray)(hs:s.size<=4611686018427387904)(w:World):
 Calls prog 52 #[.agg #[v 0,v 1,v 2,v 3,v 4,v 5, .bool b,v 6, .bool f,v 7,v 8,v 9, .string s]] w (F7 fun x w'=>x= .int .i64 ((s.size:Int)+b2 b+b2 f)/\Below w.heap.size w w'):=by
 have hc:lnS.cx.ok { U9 [] [b,f] [s] []with v:=v }:=cxP ⟨⟨show(0:Int)<=(s.size:Int)by omega,show(s.size:Int)<=4611686018427387904 by omega⟩,trivial⟩ trivial;refine W3 (B:=⟨{ U9 [] [b,f] [s] []with v:=v },fun _=>False,w,fun _=>0,4⟩) (sp:=[]) hv (fun q hq=>by cases hq) 10 400 func52 rfl [.one (.agg lnC)] lnS _ 4 rfl dT7 (Md.aj5 hc) ⟨?_,?_,?_,?_,trivial⟩ rfl;all_goals
  intro hpc N w' hH;refine⟨aD3 ?_,Sy.Only.R9 hH.only⟩;replace hpc:A6 { U9 [] [b,f] [s] []with v:=v } _:=hpc;simp only[A6,y9,G1,and_true]at hpc;have e0:({ U9 [] [b,f] [s] []with v:=v }:Env).b 0=b:=rfl;have e1:({ U9 [] [b,f] [s] []with v:=v }:Env).b 1=f:=rfl;rw[e0,e1]at hpc;try simp only[aQ]at hpc
  rw[hpc.1,hpc.2];simp only[a36,aW0,z7,A8,A0,aG6];show _=((s.size:Int)+_+_);first|rfl|omega
theorem dW9(v:Nat->Value)(hv:∀ i,(v i).oneCell'=true)(b f:Bool)(s:ByteArray)(hs:s.size<=4611686018427387904)(w:World):
 Calls prog 54 #[.agg #[v 0,v 1,v 2,v 3,v 4,v 5, .bool b,v 6, .bool f,v 7,v 8,v 9, .string s]] w (F7 fun x w'=>x= .int .i64 ((s.size:Int)+b2 b+b2 f)/\Below w.heap.size w w'):=by
 have hc:lnS.cx.ok { U9 [] [b,f] [s] []with v:=v }:=cxP ⟨⟨show(0:Int)<=(s.size:Int)by omega,show(s.size:Int)<=4611686018427387904 by omega⟩,trivial⟩ trivial;refine W3 (B:=⟨{ U9 [] [b,f] [s] []with v:=v },fun _=>False,w,fun _=>0,4⟩) (sp:=[a41]) hv (fun q hq=>by rw[ah.1 hq];exact a94) 10 400 func54 rfl [.one (.agg lnC)] lnS _ 4 rfl dW5 (Md.aj5 hc) ⟨?_,trivial⟩ rfl;all_goals
  intro hpc N w' hH;refine⟨aD3 ?_,Sy.Only.R9 hH.only⟩;simp only[z7,A8,aD5,G1,A0,aG6];rfl
theorem bg7(n a:Int): -2147483648<=aT1 n a/\aT1 n a<=1152921506754330623:=by
 unfold aT1;have:=cl0 a;have:=bv9 n (aX5 a);omega
section
variable{J:Env}(hg:J.R8)(hf:J.f=cnF)
include hf
theorem ch5(n a:Tm):(u9 J (bJ1 n a)).i=aT1 (u9 J n).i (u9 J a).i:=by unfold bJ1;rw[F3 hf];rfl
theorem eT0(a l b m:Tm):(u9 J (c80 a l b m)).b=aO2 (u9 J a).i (u9 J l).i (u9 J b).i (u9 J m).i:=by unfold c80;rw[F3 hf];rfl
theorem nearSp'_ok{f:FuncId}(H:∀(n t:Int) (w:World),0<=n->n<=4294967295->Calls prog f #[.int .u32 n, .int .i64 t] w fun e w'=>e= .returned (.int .i64 (aT1 n t))/\Below w.heap.size w w'):(bg8 f).Ok prog J:=by
 refine aY3 fun c xs m v bs hc hpre hres hm=>?_
 split at hpre
 .rename_i n a;injection hpre with hpre;subst hpre;injection hres with hres;injection hres with h1 h2;subst h1 h2;have hn:=be8 hc hm;refine⟨fun x hx=>?_,fun N w=>(H _ _ w hn.1 hn.2).mono ?_⟩
  .rw[ah.1 hx];show _<=(u9 J (bJ1 n a)).i/\(u9 J (bJ1 n a)).i<=_;rw[ch5 hf];exact bg7 _ _
  .rintro e w' ⟨rfl,h⟩;exact⟨congrArg Ending.returned (aD3 (ch5 hf n a).symm),h⟩
 .cases hpre
theorem accSp'_ok{f:FuncId}(H:∀(a l b m:Int) (w:World),0<=a->a<=4294967295->0<=b->b<=4294967295-> -9223372036854775808<=l->l<=9223372036854775807-> -9223372036854775808<=m->m<=9223372036854775807->
 Calls prog f #[.int .u32 a, .int .i64 l, .int .u32 b, .int .i64 m] w fun e w'=>e= .returned (.bool (aO2 a l b m))/\w=w'):(b15 f).Ok prog J:=by
 refine aY3 fun c xs m v bs hc hpre hres hm=>?_
 split at hpre
 .rename_i a l b k;injection hpre with hpre;subst hpre;injection hres with hres;injection hres with h1 h2;subst h1 h2;have h1:=be8 hc hm.l;have h2:=be8 hc hm.r.l;have h3:=aE4 hc hm.r.r.l;have h4:=aE4 hc hm.r.r.r;refine⟨aG5 _,fun N w=>(H _ _ _ _ w h1.1 h1.2 h2.1 h2.2 h3.1 h3.2 h4.1 h4.2).mono ?_⟩;rintro e w' ⟨rfl,rfl⟩;exact⟨congrArg Ending.returned (au8 (eT0 hf a l b k).symm),⟨rfl,rfl,rfl,aI _,fun _ _=>rfl⟩⟩
 .cases hpre
omit hf in
include hg in
theorem lenSp'_ok{f:FuncId}(H:∀(v:Nat->Value) (hv:∀ i,(v i).oneCell'=true) (b f':Bool) (s:ByteArray) (hs:s.size<=4611686018427387904) (w:World),Calls prog f #[.agg #[v 0,v 1,v 2,v 3,v 4,v 5, .bool b,v 6, .bool f',v 7,v 8,v 9, .string s]] w (F7 fun x w'=>x= .int .i64 ((s.size:Int)+b2 b+b2 f')/\Below w.heap.size w w')):(by8 f).Ok prog J:=by
 refine aY3 fun c xs m v bs hc hpre hres hm=>?_
 split at hpre
 .rename_i x0 x1 x2 x3 x4 x5 b x6 f' x7 x8 x9 s;injection hpre with hpre;subst hpre;injection hres with hres;injection hres with h1 h2;subst h1 h2;have h1:=B2 (z0 hc hm);rw[Q8 hc]at h1;have hs:(u9 J s).s.size<=4611686018427387904:=by
   have e:(u9 J (.il 4611686018427387904)).i=4611686018427387904:=rfl;omega
  have e1:=aL3 (u9 J b).b;have e2:=aL3 (u9 J f').b;refine⟨fun x hx=>?_,fun N w=>?_⟩
  .rw[ah.1 hx];show 0<=(u9 J (bE7 c s b f')).i/\(u9 J (bE7 c s b f')).i<=4611686018427387906;rw[bJ2 hc];omega
  .let V:Nat->Value:=fun i=>if i=0 then x0.G2 J N else if i=1 then x1.G2 J N else if i=2 then x2.G2 J N else if i=3 then x3.G2 J N else if i=4 then x4.G2 J N else if i=5 then x5.G2 J N else if i=6 then x6.G2 J N else if i=7 then x7.G2 J N else if i=8 then x8.G2 J N else x9.G2 J N
   have hV:∀ i,(V i).oneCell'=true:=fun i=>by
    show(if i=0 then _ else _:Value).oneCell'=true;repeat' split
    all_goals exact C.one hg N _
   refine(H V hV (u9 J b).b (u9 J f').b (u9 J s).s hs w).mono ?_;rintro e w' ⟨v,rfl,rfl,h⟩;exact⟨congrArg Ending.returned (aD3 (bJ2 hc s b f').symm),h⟩
 .cases hpre
end
def ch7:Sy.Spec:=bg8 99
def cD5:Sy.Spec:=bg8 106
def dQ4:Sy.Spec:=b15 100
def cf1:Sy.Spec:=b15 105
def dM4:Sy.Spec:=by8 52
def bw3:Sy.Spec:=by8 54
def av0(l:Nat)(ty:TypeId)(m z p:Tm):Bk:=⟨l,ty,[.int .i64 m, .int .i64 z, .int .i64 p],true,none, .no⟩
def a62(ty:TypeId)(s:Sy.St)(l:Nat):Option (Tm × Tm × Tm):=match aD0 l s.hp with
 | some ⟨_,ty',[.int .i64 m, .int .i64 z, .int .i64 p],true,none, .no⟩=>if Nat.beq ty ty' then some (m,z,p)else none
 | _=>none
theorem be4{J:Env}{N:Bn}{w:World}{ty:TypeId}{s:Sy.St}{l:Nat}{m z p:Tm}(h:a62 ty s l=some (m,z,p))(hb:∀ b∈s.hp,BkOk J N w b):Blk w (N l) ty (aO4 (u9 J m).i (u9 J z).i (u9 J p).i):=by
 unfold a62 at h;split at h
 .rename_i l' ty' m' z' p' hf;split at h
  .rename_i q;injection h with h;injection h with h1 h;injection h with h2 h3;subst h1 h2 h3;obtain⟨hm,hl⟩:=U4 hf;have e:l'=l:=hl;subst e;have:=af q;subst this;exact hb _ hm
  .cases h
 .cases h
def wiN(c:Cx)(m z:Tm):List Tm:=F9 c (.le (.il 8) m)++(F9 c (.le m (.il 1000))++(F9 c (.le (.il 8) z)++F9 c (.le z u7)))
theorem ds6{J:Env}{c:Cx}(hc:c.ok J){m z:Tm}(h:Sy.Met J (wiN c m z)):(8<=(u9 J m).i/\(u9 J m).i<=1000)/\8<=(u9 J z).i/\(u9 J z).i<=65535:=⟨⟨B2 (z0 hc h.l),B2 (z0 hc h.r.l)⟩,B2 (z0 hc h.r.r.l),B2 (z0 hc h.r.r.r)⟩
def pr3(x y z:Tm):Tm:=zI x (zI y (zI z qao))
def akT(m z p n:Tm):Tm:= .ap 108 (pr3 m z p) n i9
def slT(m n:Tm):Tm:= .ap 109 m n i9
def ay4(ty:TypeId)(bs:Tm->Tm->Tm->Tm->List Bd)(r:Tm->Tm->Tm->Tm->Tm × Tm)(s:Sy.St):List SV->Option Did
 | [.one (.c (.ptr l 0)), .one (.c (.int .i64 n))]=>match a62 ty s l with
   | some (m,z,p)=>some ⟨wiN s.cx m z++aU6 s.cx n,[],[av0 l ty m (r m z p n).1 (r m z p n).2],[], .tup [],bs m z p n,none⟩
   | none=>none
 | _=>none
theorem ak4{J:Env}{f:FuncId}{ty:TypeId}{bs:Tm->Tm->Tm->Tm->List Bd}{r:Tm->Tm->Tm->Tm->Tm × Tm}(R:Int->Int->Int->Int->Int × Int)
 (H:∀(g:Nat) (m z p n:Int) (w:World),Blk w g ty (aO4 m z p)->8<=m->m<=1000->8<=z->z<=65535-> -9223372036854775808<=n->n<=9223372036854775807->
   Calls prog f #[.pointer (some ⟨g,0,none⟩), .int .i64 n] w fun e w'=>e= .returned (.tuple #[])/\Blk w' g ty (aO4 m (R m z p n).1 (R m z p n).2)/\Only (· =g) w w')
 (hr:∀ m z p n,(u9 J (r m z p n).1).i=(R (u9 J m).i (u9 J z).i (u9 J p).i (u9 J n).i).1/\(u9 J (r m z p n).2).i=(R (u9 J m).i (u9 J z).i (u9 J p).i (u9 J n).i).2)
 (hB:∀ m z p n,8<=(u9 J m).i->(u9 J m).i<=1000->8<=(u9 J z).i->(u9 J z).i<=65535->X5 J (bs m z p n)):(R4 f (ay4 ty bs r)).Ok prog J:=by
 refine U1 fun{s xs d} hs hc hm {N w} hb hne=>?_
 unfold ay4 at hs;split at hs
 .rename_i l n;split at hs
  .rename_i m z p ho;injection hs with hs;subst hs;have B:=be4 ho hb;obtain⟨⟨h1,h2⟩,h3,h4⟩:=ds6 hc hm.l;have hn:=aE4 hc hm.r;refine⟨hB m z p n h1 h2 h3 h4,?_⟩;refine(H (N l) _ _ _ _ w B h1 h2 h3 h4 hn.1 hn.2).mono ?_;rintro e w' ⟨rfl,b1,b2⟩;refine⟨N,rfl,bh9 (b:=av0 l ty m (r m z p n).1 (r m z p n).2) b2 ?_⟩;show Blk w' (N l) ty [.int .i64 (u9 J m).i, .int .i64 (u9 J (r m z p n).1).i, .int .i64 (u9 J (r m z p n).2).i];rw[(hr m z p n).1,(hr m z p n).2];exact b1
  .cases hs
 .cases hs
def akR(m z p n:Tm):Tm × Tm:=(akT m z p n,p)
def loR(m z p n:Tm):Tm × Tm:=(slT m n,slT m n)
def siR(m z p n:Tm):Tm × Tm:=(m,slT m n)
def akB(m z p n:Tm):List Bd:=[⟨akT m z p n,8,65535⟩]
def slB(m z p n:Tm):List Bd:=[⟨slT m n,16,65535⟩]
def dJ9:Sy.Spec:=R4 121 (ay4 137 akB akR)
def dJ8:Sy.Spec:=R4 124 (ay4 137 slB loR)
def dJ6:Sy.Spec:=R4 110 (ay4 137 slB siR)
def cc4:Sy.Spec:=R4 128 (ay4 94 akB akR)
def cc2:Sy.Spec:=R4 107 (ay4 94 slB loR)
def cc0:Sy.Spec:=R4 113 (ay4 94 slB siR)
section
variable{J:Env}(hg:J.R8)(hf:J.f=cnF)
include hf
theorem cR3(m z p n:Tm):(u9 J (akT m z p n)).i=aN3 (u9 J m).i (u9 J z).i (u9 J p).i (u9 J n).i:=by unfold akT;rw[F3 hf];rfl
theorem a65(m n:Tm):(u9 J (slT m n)).i=aC3 (u9 J m).i (u9 J n).i:=by unfold slT;rw[F3 hf];rfl
theorem cl8(m z p n:Tm)(h1:8<=(u9 J m).i)(h2:(u9 J m).i<=1000)(h3:8<=(u9 J z).i)(h4:(u9 J z).i<=65535):X5 J (akB m z p n):=fun x hx=>by
 rw[ah.1 hx];show 8<=(u9 J (akT m z p n)).i/\(u9 J (akT m z p n)).i<=65535;rw[cR3 hf];exact cG8 _ _ _ _ h1 h2 h3 h4
theorem bW0(m z p n:Tm)(h1:8<=(u9 J m).i)(h2:(u9 J m).i<=1000)(h3:8<=(u9 J z).i)(h4:(u9 J z).i<=65535):X5 J (slB m z p n):=fun x hx=>by
 rw[ah.1 hx];show 16<=(u9 J (slT m n)).i/\(u9 J (slT m n)).i<=65535;rw[a65 hf];exact bO4 _ _ h1 h2
theorem ct6:dJ9.Ok prog J:=ak4 (fun m z p n=>(aN3 m z p n,p)) (fun g m z p n w hB h1 h2 h3 h4 h5 h6=>cQ5 g m z p n w hB h1 h2 h3 h4 h5 h6) (fun m z p n=>⟨cR3 hf ..,rfl⟩) (cl8 hf)
theorem ct3:dJ8.Ok prog J:=ak4 (fun m z p n=>(aC3 m n,aC3 m n)) (fun g m z p n w hB h1 h2 h3 h4 h5 h6=>ck8 g m z p n w hB h1 h2 h5 h6) (fun m z p n=>⟨a65 hf ..,a65 hf ..⟩) (bW0 hf)
theorem ct1:dJ6.Ok prog J:=ak4 (fun m z p n=>(m,aC3 m n)) (fun g m z p n w hB h1 h2 h3 h4 h5 h6=>cB9 g m z p n w hB h1 h2 h5 h6) (fun m z p n=>⟨rfl,a65 hf ..⟩) (bW0 hf)
theorem cc3:cc4.Ok prog J:=ak4 (fun m z p n=>(aN3 m z p n,p)) (fun g m z p n w hB h1 h2 h3 h4 h5 h6=>ce8 g m z p n w hB h1 h2 h3 h4 h5 h6) (fun m z p n=>⟨cR3 hf ..,rfl⟩) (cl8 hf)
theorem cc1:cc2.Ok prog J:=ak4 (fun m z p n=>(aC3 m n,aC3 m n)) (fun g m z p n w hB h1 h2 h3 h4 h5 h6=>bw8 g m z p n w hB h1 h2 h5 h6) (fun m z p n=>⟨a65 hf ..,a65 hf ..⟩) (bW0 hf)
theorem cb9:cc0.Ok prog J:=ak4 (fun m z p n=>(m,aC3 m n)) (fun g m z p n w hB h1 h2 h3 h4 h5 h6=>cL9 g m z p n w hB h1 h2 h5 h6) (fun m z p n=>⟨rfl,a65 hf ..⟩) (bW0 hf)
theorem ch6:ch7.Ok prog J:=nearSp'_ok hf fun n t w _ _=>(cv2 n t w).mono fun e w' h=>⟨h.1,h.2 ▸ ⟨rfl,rfl,rfl,aI _,fun _ _=>rfl⟩⟩
theorem cL6:cD5.Ok prog J:=nearSp'_ok hf fun n t w h1 h2=>cB1 n t w h1 h2
theorem c81:dQ4.Ok prog J:=accSp'_ok hf fun a l b m w _ _ _ _ h1 h2 h3 h4=>cL5 a l b m w h1 h2 h3 h4
theorem cf0:cf1.Ok prog J:=accSp'_ok hf fun a l b m w h1 h2 h3 h4 h5 h6 h7 h8=>br0 a l b m w h1 h2 h3 h4 h5 h6 h7 h8
omit hf in
include hg in
theorem cz1:dM4.Ok prog J:=lenSp'_ok hg fun v hv b f s hs w=>dU0 v hv b f s hs w
omit hf in
include hg in
theorem bm6:bw3.Ok prog J:=lenSp'_ok hg fun v hv b f s hs w=>dW9 v hv b f s hs w
end
structure Cs where
 c:Cn
 L:Rws
 R:List Int
def tj(ts:List Tm)(j:Nat):Tm:=ts.getD j i9
def cnT(J:Env)(ts:List Tm):Cn:=⟨(u9 J (tj ts 0)).i,(u9 J (tj ts 1)).i,(u9 J (tj ts 2)).i,(u9 J (tj ts 3)).i,(u9 J (tj ts 4)).i,(u9 J (tj ts 5)).i,(u9 J (tj ts 6)).i,(u9 J (tj ts 7)).i,(u9 J (tj ts 8)).i,(u9 J (tj ts 9)).i,(u9 J (tj ts 10)).i,(u9 J (tj ts 11)).i,(u9 J (tj ts 12)).i,(u9 J (tj ts 13)).i,(u9 J (tj ts 14)).i,(u9 J (tj ts 15)).i,(u9 J (tj ts 16)).i,(u9 J (tj ts 17)).i,(u9 J (tj ts 18)).b,(u9 J (tj ts 19)).b,(u9 J (tj ts 20)).b,(u9 J (tj ts 21)).i,(u9 J (tj ts 22)).i,(u9 J (tj ts 23)).b,(u9 J (tj ts 24)).i,(u9 J (tj ts 25)).i,(u9 J (tj ts 26)).i,(u9 J (tj ts 27)).s,(u9 J (tj ts 28)).b,(u9 J (tj ts 29)).i,(u9 J (tj ts 30)).i,(u9 J (tj ts 31)).i,(u9 J (tj ts 32)).i,(u9 J (tj ts 33)).i,(u9 J (tj ts 34)).i,(u9 J (tj ts 35)).i,(u9 J (tj ts 36)).i,(u9 J (tj ts 37)).i⟩
def ea8(Y:Tm):List Tm:=(List.range 38).map fun(j:Nat)=>S0 (j:Int) Y
theorem c14(c:Cn)(v:Int):aC6 (fun j=>K9 (c.aD8 j v)=(K9 c).set j (.int .i64 v)) [0,1,2,3,4,5,6,7,8,9,10,11,12,13,14,15,16,17,21,22,24,25,26,29,30,31,32,33,34,35,36,37]:=⟨rfl,rfl,rfl,rfl,rfl,rfl,rfl,rfl,rfl,rfl,rfl,rfl,rfl,rfl,rfl,rfl,rfl,rfl,rfl,rfl,rfl,rfl,rfl,rfl,rfl,rfl,rfl,rfl,rfl,rfl,rfl,rfl,trivial⟩
theorem c15(c:Cn)(v:Bool):aC6 (fun j=>K9 (c.ay1 j v)=(K9 c).set j (.bool v)) [18,19,20,23,28]:=⟨rfl,rfl,rfl,rfl,rfl,trivial⟩
theorem c13(c:Cn)(v:ByteArray):aC6 (fun j=>K9 (c.bU7 j v)=(K9 c).set j (.string v)) [27]:=⟨rfl,trivial⟩
def aq9(j:Nat):Bool:=[0,1,2,3,4,5,6,7,8,9,10,11,12,13,14,15,16,17,21,22,24,25,26,29,30,31,32,33,34,35,36,37].any (Nat.beq j)
def av8(j:Nat):Bool:=[18,19,20,23,28].any (Nat.beq j)
def bQ6(j:Nat):Bool:=[27].any (Nat.beq j)
theorem bK4{j:Nat}{l:List Nat}(h:l.any (Nat.beq j)=true):j∈l:=by
 obtain⟨x,hx,he⟩:=List.any_eq_true.1 h;rw[af he];exact hx
def bv7(Y:Tm)(j:Nat)(t:Tm):Tm:=if aq9 j then .ap 91 (.il j) Y t else if av8 j then .ap 92 (.il j) Y t else .ap 93 (.il j) Y t
def ay8(Y:Tm):Tm->List (Nat × Tm)->Tm
 | acc,[]=>acc
 | acc,(j,t)::l=>if E7 t (S0 j Y)then ay8 Y acc l else ay8 Y (bv7 acc j t) l
def aM4(Y:Tm)(ts:List Tm):Tm:=ay8 Y Y ((List.range 38).map fun j=>(j,tj ts j))
def a88(J:Env)(j:Nat)(t:Tm):Value:=if aq9 j then .int .i64 (u9 J t).i else if av8 j then .bool (u9 J t).b else .string (u9 J t).s
def okJ(j:Nat):Bool:=aq9 j||(av8 j||bQ6 j)
theorem c16(c:Cn):(K9 c).length=38:=rfl
section
variable{J:Env}(hf:J.f=cnF)
include hf
theorem cv1{Y:Tm}{c:Cn}(h:hd (u9 J Y)=K9 c){j:Nat}(hj:okJ j=true)(t:Tm):∃ c',hd (u9 J (bv7 Y j t))=K9 c'/\K9 c'=(K9 c).set j (a88 J j t):=by
 unfold bv7 a88;by_cases h1:aq9 j=true
 .rw[if_pos h1,if_pos h1,F3 hf];refine⟨c.aD8 j (u9 J t).i,?_,am2 (c14 c (u9 J t).i) j (bK4 h1)⟩;show K9 ((R7 (hd (u9 J Y))).aD8 j (u9 J t).i)=_;rw[h,U7]
 .rw[if_neg h1,if_neg h1];by_cases h2:av8 j=true
  .rw[if_pos h2,if_pos h2,F3 hf];refine⟨c.ay1 j (u9 J t).b,?_,am2 (c15 c (u9 J t).b) j (bK4 h2)⟩;show K9 ((R7 (hd (u9 J Y))).ay1 j (u9 J t).b)=_;rw[h,U7]
  .rw[if_neg h2,if_neg h2,F3 hf];have h3:bQ6 j=true:=by
    unfold okJ at hj;rw[bp,bp]at hj;rcases hj with q|q|q
    .exact absurd q h1
    .exact absurd q h2
    .exact q
   refine⟨c.bU7 j (u9 J t).s,?_,am2 (c13 c (u9 J t).s) j (bK4 h3)⟩;show K9 ((R7 (hd (u9 J Y))).bU7 j (u9 J t).s)=_;rw[h,U7]
def RowAt(J:Env)(r:List Value)(j:Nat)(t:Tm):Prop:=(aq9 j=true->z9 r j=(u9 J t).i)/\(av8 j=true->Y5 r j=(u9 J t).b)/\(bQ6 j=true->aB8 r j=(u9 J t).s)
omit hf in
theorem cc9{r:List Value}{j:Nat}{t:Tm}(hl:j<r.length)(hx:(aq9 j&&av8 j)=false/\(aq9 j&&bQ6 j)=false/\(av8 j&&bQ6 j)=false):RowAt J (r.set j (a88 J j t)) j t:=by
 have e:(r.set j (a88 J j t))[j]? =some (a88 J j t):=by rw[List.getElem?_set_self hl]
 unfold a88 at e;refine⟨fun h=>?_,fun h=>?_,fun h=>?_⟩
 .rw[if_pos h]at e;unfold z9;unfold a88;rw[if_pos h,e]
 .have h1:aq9 j=false:=by have:=hx.1;rw[h,Bool.and_true]at this;exact this
  unfold Y5;unfold a88;rw[h1,if_neg bA,if_pos h]at e ⊢;rw[e]
 .have h1:aq9 j=false:=by have:=hx.2.1;rw[h,Bool.and_true]at this;exact this
  have h2:av8 j=false:=by have:=hx.2.2;rw[h,Bool.and_true]at this;exact this
  unfold aB8;unfold a88;rw[h1,h2,if_neg bA,if_neg bA]at e ⊢;rw[e]
theorem cd0{Y:Tm}{r:List Value}{j:Nat}(h:r[j]? =(hd (u9 J Y))[j]?):RowAt J r j (S0 j Y):=by
 have e:u9 J (S0 j Y)=⟨z9 (hd (u9 J Y)) j,Y5 (hd (u9 J Y)) j,aB8 (hd (u9 J Y)) j,[]⟩:=by
  unfold S0;rw[F3 hf];rfl
 refine⟨fun _=>?_,fun _=>?_,fun _=>?_⟩
 .rw[e];unfold z9;rw[h]
 .rw[e];unfold Y5;rw[h]
 .rw[e];unfold aB8;rw[h]
omit hf in
theorem RowAt.ec6{r r':List Value}{j:Nat}{t:Tm}(h:RowAt J r j t)(e:r'[j]? =r[j]?):RowAt J r' j t:=by
 refine⟨fun q=>?_,fun q=>?_,fun q=>?_⟩
 .rw[<-h.1 q];unfold z9;rw[e]
 .rw[<-h.2.1 q];unfold Y5;rw[e]
 .rw[<-h.2.2 q];unfold aB8;rw[e]
def bz2(j:Nat):Bool:=okJ j&&(!(aq9 j&&av8 j)&&(!(aq9 j&&bQ6 j)&&(!(av8 j&&bQ6 j)&&Nat.blt j 38)))
theorem bQ0{Y:Tm}:∀{l:List (Nat × Tm)} {acc:Tm} {c:Cn},hd (u9 J acc)=K9 c->(l.map Prod.fst).Nodup->(∀ x∈l,bz2 x.1=true/\(K9 c)[x.1]? =(hd (u9 J Y))[x.1]?)->
 ∃ c',hd (u9 J (ay8 Y acc l))=K9 c'/\(∀ x∈l,RowAt J (K9 c') x.1 x.2)/\∀ j,(∀ x∈l,x.1≠j)->(K9 c')[j]? =(K9 c)[j]?
 | [],acc,c,h,_,_=>⟨c,h,fun _ h=>bF,fun _ _=>rfl⟩
 | (j,t)::l,acc,c,h,hn,hk=>by
   rw[aW,List.nodup_cons]at hn;have hj:=hk _ (ae ..);obtain⟨kj,ej⟩:=hj;unfold bz2 at kj;rw[m5,m5,m5,m5,aN,aN,aN]at kj;obtain⟨k1,k2,k3,k4,k5⟩:=kj;have notin:∀ x∈l,x.1≠j:=fun x hx e=>hn.1 (aZ.2 ⟨x,hx,e⟩)
   unfold ay8;split
   .rename_i q;have e:=H9 q;obtain⟨c',h1,h2,h3⟩:=bQ0 (l:=l) h hn.2 fun x hx=>hk x (aj _ hx)
    refine⟨c',h1,fun x hx=>?_,fun i hi=>h3 i fun x hx=>hi x (aj _ hx)⟩;rcases aa.1 hx with rfl|hx
    .show RowAt J (K9 c') j t;rw[e];exact cd0 hf ((h3 j notin).trans ej)
    .exact h2 x hx
   .obtain⟨c1,g1,g2⟩:=cv1 hf h k1 t;have hset:∀ i,i≠j->(K9 c1)[i]? =(K9 c)[i]? :=fun i hi=>by rw[g2,List.getElem?_set_ne (fun e=>hi e.symm)]
    obtain⟨c',h1,h2,h3⟩:=bQ0 (l:=l) g1 hn.2 fun x hx=>⟨(hk x (aj _ hx)).1,(hset _ (notin x hx)).trans (hk x (aj _ hx)).2⟩
    refine⟨c',h1,fun x hx=>?_,fun i hi=>(h3 i fun x hx=>hi x (aj _ hx)).trans (hset i fun e=>hi _ (ae ..) e.symm)⟩;rcases aa.1 hx with rfl|hx
    .refine RowAt.ec6 ?_ (h3 j notin);show RowAt J (K9 c1) j t;rw[g2];refine cc9 ?_ ⟨?_,?_,?_⟩
     .rw[c16];exact aB1 k5
     .exact k2
     .exact k3
     .exact k4
    .exact h2 x hx
end
def isRow(J:Env)(Y:Tm):Prop:=∃ c,hd (u9 J Y)=K9 c
theorem isRow.cnD{J:Env}{Y:Tm}(h:isRow J Y):hd (u9 J Y)=K9 (B4 J Y):=by
 obtain⟨c,hc⟩:=h;unfold Go.Proofs.YtnlcpcmdlcakgaaGreat.B4;rw[hc,U7]
def ah5:Tm->Bool
 | .cv n=>Nat.beq n 0
 | .ap n _ _ _=>[91,92,93,120,121,122,123,126,133,136,140,145,147,150,154,156,160].any (Nat.beq n)
 | _=>false
structure CnEnv(J:Env):Prop where
 g:J.R8
 f:J.f=cnF
 o:J.o=cnO
 c0:isRow J j8
theorem bO8{J:Env}(E:CnEnv J){Y:Tm}(h:ah5 Y=true):isRow J Y:=by
 unfold ah5 at h;split at h
 .have:=af h;subst this;exact E.c0
 .have hm:=bK4 h;unfold isRow;rw[F3 E.f];simp only[aa,aY,or_false]at hm;rcases hm with rfl|rfl|rfl|rfl|rfl|rfl|rfl|rfl|rfl|rfl|rfl|rfl|rfl|rfl|rfl|rfl|rfl<;>exact⟨_,rfl⟩
 .cases h
theorem bP9{J:Env}(E:CnEnv J){Y:Tm}(hY:isRow J Y)(ts:List Tm):hd (u9 J (aM4 Y ts))=K9 (cnT J ts):=by
 obtain⟨c',h1,h2,_⟩:=bQ0 E.f (Y:=Y) (l:=(List.range 38).map fun j=>(j,tj ts j)) hY.cnD (by rw[List.map_map,show(Prod.fst ∘ fun j=>(j,tj ts j))=(id:Nat->Nat)from rfl,List.map_id];exact List.nodup_range) (fun x hx=>(by
  obtain⟨j,hj,rfl⟩:=aZ.1 hx;refine⟨?_,by rw[hY.cnD]⟩;have:((List.range 38).all bz2)=true:=by decide
  exact av.1 this j hj))
 have key:∀ j,j<38->RowAt J (K9 c') j (tj ts j):=fun j hj=>h2 (j,tj ts j) (aZ.2 ⟨j,List.mem_range.2 hj,rfl⟩)
 show hd (u9 J (ay8 Y Y _))=_;rw[h1];congr 1;have e0:c'.la=(u9 J (tj ts 0)).i:=(key 0 bA).1 rfl;have e1:c'.lp=(u9 J (tj ts 1)).i:=(key 1 bA).1 rfl;have e2:c'.ra=(u9 J (tj ts 2)).i:=(key 2 bA).1 rfl;have e3:c'.rp=(u9 J (tj ts 3)).i:=(key 3 bA).1 rfl;have e4:c'.st=(u9 J (tj ts 4)).i:=(key 4 bA).1 rfl;have e5:c'.why=(u9 J (tj ts 5)).i:=(key 5 bA).1 rfl;have e6:c'.iss=(u9 J (tj ts 6)).i:=(key 6 bA).1 rfl;have e7:c'.irs=(u9 J (tj ts 7)).i:=(key 7 bA).1 rfl;have e8:c'.own=(u9 J (tj ts 8)).i:=(key 8 bA).1 rfl;have e9:c'.mss=(u9 J (tj ts 9)).i:=(key 9 bA).1 rfl;have e10:c'.wnd=(u9 J (tj ts 10)).i:=(key 10 bA).1 rfl;have e11:c'.wat=(u9 J (tj ts 11)).i:=(key 11 bA).1 rfl;have e12:c'.wak=(u9 J (tj ts 12)).i:=(key 12 bA).1 rfl;have e13:c'.now=(u9 J (tj ts 13)).i:=(key 13 bA).1 rfl;have e14:c'.clk=(u9 J (tj ts 14)).i:=(key 14 bA).1 rfl;have e15:c'.gone=(u9 J (tj ts 15)).i:=(key 15 bA).1 rfl;have e16:c'.same=(u9 J (tj ts 16)).i:=(key 16 bA).1 rfl;have e17:c'.ends=(u9 J (tj ts 17)).i:=(key 17 bA).1 rfl;have e18:c'.owed=(u9 J (tj ts 18)).b:=(key 18 bA).2.1 rfl;have e19:c'.again=(u9 J (tj ts 19)).b:=(key 19 bA).2.1 rfl;have e20:c'.prb=(u9 J (tj ts 20)).b:=(key 20 bA).2.1 rfl;have e21:c'.meas=(u9 J (tj ts 21)).i:=(key 21 bA).1 rfl;have e22:c'.wen=(u9 J (tj ts 22)).i:=(key 22 bA).1 rfl;have e23:c'.shut=(u9 J (tj ts 23)).b:=(key 23 bA).2.1 rfl;have e24:c'.una=(u9 J (tj ts 24)).i:=(key 24 bA).1 rfl;have e25:c'.cur=(u9 J (tj ts 25)).i:=(key 25 bA).1 rfl;have e26:c'.snt=(u9 J (tj ts 26)).i:=(key 26 bA).1 rfl;have e27:c'.all=(u9 J (tj ts 27)).s:=(key 27 bA).2.2 rfl;have e28:c'.has=(u9 J (tj ts 28)).b:=(key 28 bA).2.1 rfl;have e29:c'.rd=(u9 J (tj ts 29)).i:=(key 29 bA).1 rfl;have e30:c'.fin=(u9 J (tj ts 30)).i:=(key 30 bA).1 rfl;have e31:c'.mean=(u9 J (tj ts 31)).i:=(key 31 bA).1 rfl;have e32:c'.spr=(u9 J (tj ts 32)).i:=(key 32 bA).1 rfl;have e33:c'.dbl=(u9 J (tj ts 33)).i:=(key 33 bA).1 rfl;have e34:c'.cm=(u9 J (tj ts 34)).i:=(key 34 bA).1 rfl;have e35:c'.cz=(u9 J (tj ts 35)).i:=(key 35 bA).1 rfl;have e36:c'.cs=(u9 J (tj ts 36)).i:=(key 36 bA).1 rfl;have e37:c'.bg=(u9 J (tj ts 37)).i:=(key 37 bA).1 rfl;clear key h2 h1;obtain⟨x0,x1,x2,x3,x4,x5,x6,x7,x8,x9,x10,x11,x12,x13,x14,x15,x16,x17,x18,x19,x20,x21,x22,x23,x24,x25,x26,x27,x28,x29,x30,x31,x32,x33,x34,x35,x36,x37⟩:=c';simp only at e0 e1 e2 e3 e4 e5 e6 e7 e8 e9 e10 e11 e12 e13 e14 e15 e16 e17 e18 e19 e20 e21 e22 e23 e24 e25 e26 e27 e28 e29 e30 e31 e32 e33 e34 e35 e36 e37;subst e0 e1 e2 e3 e4 e5 e6 e7 e8 e9 e10 e11 e12 e13 e14 e15 e16 e17 e18 e19 e20 e21 e22 e23 e24 e25 e26 e27 e28 e29 e30 e31 e32 e33 e34 e35 e36 e37;rfl
end Go.Proofs.YtnlcpcmdlcakgaaGreat
