/- A part of the proof that a connection answers as the document says: SyCh Rest Step SyO SyZ Iq0 Iq1. -/
import Derived.BigQuiet
import Derived.Deep.QuietTactic
import Derived.Test.YtnlcpcmdlcakgaaGreatKh12
set_option maxRecDepth 100000
set_option maxHeartbeats 4000000
set_option linter.unusedVariables false
set_option linter.unusedSimpArgs false
set_option linter.unusedSectionVars false
open Go.Proofs.Tryz
namespace Go.Proofs.YtnlcpcmdlcakgaaGreat
namespace Sy
open Go Go.RowKit
def dH4(J:Env):List Bd->Prop
 | []=>True
 | x::l=>(x.lo<=(u9 J x.t).i/\(u9 J x.t).i<=x.hi)/\dH4 J l
theorem Z6{J:Env}:∀{l:List Bd},dH4 J l->X5 J l
 | [],_,x,hx=>by cases hx
 | y::l,h,x,hx=>by
   rcases aa.1 hx with rfl|hx
   .exact h.1
   .exact Z6 h.2 x hx
theorem cI1{J:Env}:∀{l:List Tm},A6 J l->∀ t∈l,(u9 J t).b=true
 | [],_,x,hx=>by cases hx
 | y::l,h,x,hx=>by
   rcases aa.1 hx with rfl|hx
   .exact h.1
   .exact cI1 h.2 x hx
theorem cxP{J:Env}{c:Cx}(h1:dH4 J c.bs)(h2:A6 J c.pc):c.ok J:=⟨Z6 h1,cI1 h2⟩
def hpP(J:Env)(N:Bn)(w:World):List Bk->Prop
 | []=>True
 | b::l=>BkOk J N w b/\hpP J N w l
theorem b71{J:Env}{N:Bn}{w:World}:∀{l:List Bk},hpP J N w l->∀ b∈l,BkOk J N w b
 | [],_,x,hx=>by cases hx
 | y::l,h,x,hx=>by
   rcases aa.1 hx with rfl|hx
   .exact h.1
   .exact b71 h.2 x hx
def neL(N:Bn)(x:Bk):List Bk->Prop
 | []=>True
 | y::l=>(x.G0 N->y.G0 N->apart N x y)/\neL N x l
def neP(N:Bn):List Bk->Prop
 | []=>True
 | x::l=>neL N x l/\neP N l
theorem b58{N:Bn}{x:Bk}:∀{l:List Bk},neL N x l->∀ y∈l,x.G0 N->y.G0 N->apart N x y
 | [],_,y,hy=>by cases hy
 | z::l,h,y,hy=>by
   rcases aa.1 hy with rfl|hy
   .exact h.1
   .exact b58 h.2 y hy
theorem b57{N:Bn}:∀{l:List Bk},neP N l->∀ x∈l,∀ y∈l,x.l≠y.l->x.G0 N->y.G0 N->apart N x y
 | [],_,x,hx,_,_,_=>by cases hx
 | z::l,h,x,hx,y,hy,hne=>by
   rcases aa.1 hx with ex|hx'<;>rcases aa.1 hy with ey|hy'
   .exact absurd (by rw[ex,ey]) hne
   .rw[ex];exact b58 h.1 y hy'
   .rw[ey];exact fun h1 h2=>(b58 h.1 x hx' h2 h1).b91
   .exact b57 h.2 x hx' y hy' hne
def cV1(S:Nat->Prop)(N:Bn):List Bk->Prop
 | []=>True
 | b::l=>(b.rw=true->b.G0 N->∀ g,fp N b g->S g)/\cV1 S N l
theorem bj8{S:Nat->Prop}{N:Bn}:∀{l:List Bk},cV1 S N l->∀ b∈l,b.rw=true->b.G0 N->∀ g,fp N b g->S g
 | [],_,x,hx=>by cases hx
 | y::l,h,x,hx=>by
   rcases aa.1 hx with rfl|hx
   .exact h.1
   .exact bj8 h.2 x hx
theorem Md.ax8{J:Env}{S:Nat->Prop}{w:World}{N:Bn}{n0:Nat}{s:St}(h1:hpP J N w s.hp)(h2:neP N s.hp)(h3:cV1 S N s.hp)(h4:s.cx.ok J)(h5:s.tm=[]):Md J S w N n0 s N ⟨#[],[]⟩ w:=
 ⟨by rw[h5];rfl,b71 h1,b57 h2,fun b hb hw hr g hg=> .inl (bj8 h3 b hb hw hr g hg),h4,Only.aF4 _ _,fun _ _=>rfl⟩
def tmK(keep:List Nat)(vs:List (Nat × SV)):Nat->List SV->List SV
 | _,[]=>[]
 | n,x::l=>(match cR8 n vs with
   | some v=>v
   | none=>if keep.any (Nat.beq n)then x else .any n)::tmK keep vs (n+1) l
def a13(s:St)(keep:List Nat)(vs:List (Nat × SV))(hp:List Bk)(cx:Cx)(nx:Nat):St:=⟨tmK keep vs 0 s.tm,b44 (s.hp.map (fun b=>match aD0 b.l hp with
 | some b'=>b'
 | none=>b)),cx,nx⟩
structure Chg(J:Env)(N N':Bn)(w w':World)(s:St)(drops:List Nat)(nbs adds:List Bk)(ow:Option Bk:=none):Prop where
 only:Only (fun g=>(∃ b∈nbs,g=N b.l)\/(∃ d∈s.hp,d.l∈drops/\d.G0 N/\fp N d g)\/∃ b∈ow,∃ d∈s.hp,d.l=b.l/\(d.own=true/\d.rw=true)/\fp N d g) w w'
 old:∀ l,l<s.nx->N' l=N l
 nb:∀ b∈nbs,BkOk J N' w' b
 add:∀ b∈adds,BkOk J N' w' b
 own:∀ b∈ow,BkOk J N' w' b/\∀ g,fp N' b g->(∃ d∈s.hp,d.l=b.l/\(d.own=true/\d.rw=true)/\fp N d g)\/w.heap.size<=g
 fresh:∀ b∈adds,b.G0 N'->∀ g,fp N' b g->(∃ d∈s.hp,d.l∈drops/\d.G0 N/\fp N d g)\/w.heap.size<=g
 ne:∀ x∈adds,∀ y∈adds,x.l≠y.l->x.G0 N'->y.G0 N'->apart N' x y
 neo:∀ x∈adds,∀ b∈ow,x.G0 N'->apart N' x b
def aS3(n:Nat)(l:List Nat):Bool:=l.any (Nat.beq n)
theorem aE0{n:Nat}{l:List Nat}:aS3 n l=true↔n∈l:=by
 unfold aS3;rw[List.any_eq_true];exact⟨fun⟨x,hx,e⟩=>by rw[af e];exact hx,fun h=>⟨n,h,Nat.beq_refl n⟩⟩
def bj5:List Bk->List Bk->List Bk
 | [],hp=>hp
 | b::l,hp=>bj5 l (aV0 b hp)
theorem bN7{x:Bk}:∀{nbs hp:List Bk},x∈bj5 nbs hp->x∈nbs\/(x∈hp/\∀ b∈nbs,x.l≠b.l)
 | [],hp,h=> .inr ⟨h,fun b hb=>by cases hb⟩
 | b::l,hp,h=>by
   rcases bN7 (nbs:=l) h with h|⟨h,hn⟩
   .exact .inl (aj _ h)
   .rcases aw7 h with h|⟨h,hne⟩
    .exact .inl (by rw[h];exact ae ..)
    .refine .inr ⟨h,fun c hc=>?_⟩;rcases aa.1 hc with rfl|hc
     .exact hne
     .exact hn c hc
def b69:List Bk->List Bk->List Bk
 | [],hp=>hp
 | b::l,hp=>ae5 b (b69 l hp)
theorem bc6{x:Bk}:∀{adds hp:List Bk},x∈b69 adds hp->x∈adds\/x∈hp
 | [],hp,h=> .inr h
 | b::l,hp,h=>by
   rcases aI7 h with h|h
   .exact .inl (by rw[h];exact ae ..)
   .rcases bc6 h with h|h
    .exact .inl (aj _ h)
    .exact .inr h
def St.chg(s:St)(drops:List Nat)(nbs adds:List Bk)(bs:List Bd)(ow:Option Bk:=none):St:=
 { s with hp:=b69 adds (bj5 (ow.toList++nbs) (s.hp.filter fun b=> !(aS3 b.l drops))),nx:=s.nx+(2*adds.length+match ow with|none=>0|some _=>2),cx:=⟨bs++s.cx.bs,s.cx.pc⟩ }
def dR2(s:St)(drops:List Nat)(nbs:List Bk)(ow:Option Bk):Bool:=
 match ow with
 | none=>true
 | some b=>b.own&&(!(aS3 b.l drops)&&((nbs.all fun x=> !(Nat.beq x.l b.l))&&(s.hp.any fun d=>Nat.beq d.l b.l&&(d.own&&d.rw))))
def cX8(n0:Nat)(s:St)(drops:List Nat)(nbs adds:List Bk)(ow:Option Bk:=none):Bool:=
 Nat.ble n0 s.nx&&((s.tm.all (SV.lt s.nx))&&((s.hp.all fun b=>Nat.blt (b.l+1) s.nx&&ltL s.nx b.cs)&&
 ((nbs.all fun nb=>(!(nb.L4)&& !(nb.own))&&(!(aS3 nb.l drops)&&s.hp.any fun b=>Nat.beq b.l nb.l&&(!(b.L4)&&b.rw)))&&
 ((s.hp.all fun b=> !(aS3 b.l drops)||b.rw)&&((adds.all fun b=>Nat.ble s.nx b.l)&&dR2 s drops nbs ow)))))
theorem Md.chg{J:Env}{N N':Bn}{S:Nat->Prop}{w0 w w':World}{N0:Bn}{n0:Nat}{s:St}{a:Act}(hM:Md J S w0 N0 n0 s N a w){drops:List Nat}{nbs adds:List Bk}{bs:List Bd}{ow:Option Bk}(hk:cX8 n0 s drops nbs adds ow=true)(hC:Chg J N N' w w' s drops nbs adds ow)(hbs:X5 J bs):
 Md J S w0 N0 n0 (s.chg drops nbs adds bs ow) N' a w':=by
 unfold cX8 at hk;simp only[m5]at hk;obtain⟨k0,k1,k2,k3,k4,k5,k6⟩:=hk;have k0:=au k0;have hOw:∀ b∈ow,b.own=true/\¬b.l∈drops/\(∀ x∈nbs,x.l≠b.l)/\(∃ d∈s.hp,d.l=b.l/\d.own=true/\d.rw=true):=fun b hb=>by
  rw[show ow=some b from hb]at k6;unfold dR2 at k6;simp only[m5]at k6;obtain⟨o1,o3,o4,o5⟩:=k6;refine⟨o1,fun h=>?_,fun x hx e=>?_,?_⟩
  .rw[aE0.2 h]at o3;cases o3
  .have:=av.1 o4 x hx;rw[e,Nat.beq_refl]at this;cases this
  .obtain⟨d,hd,h⟩:=List.any_eq_true.1 o5;simp only[m5]at h;exact⟨d,hd,af h.1,h.2.1,h.2.2⟩
 have old2:∀ b∈s.hp,N' b.l=N b.l/\N' (b.l+1)=N (b.l+1)/\A5 J N' b.cs=A5 J N b.cs:=fun b hb=>by
  have:=av.1 k2 b hb;rw[m5]at this;have h1:b.l+1<s.nx:=aB1 this.1;exact⟨hC.old _ U,hC.old _ h1,aj3 J hC.old this.2⟩
 have hnb:∀ nb∈nbs,nb.own=false/\¬nb.l∈drops/\∃ b∈s.hp,b.l=nb.l/\b.L4=false/\b.G0 N/\b.rw=true:=fun nb hb=>by
  have:=av.1 k3 nb hb;simp only[m5,aN]at this;obtain⟨⟨_,h1⟩,h2,h3⟩:=this;obtain⟨b,hb,h4⟩:=List.any_eq_true.1 h3;simp only[m5,aN]at h4;refine⟨h1,fun h=>?_,b,hb,af h4.1,h4.2.1, .inl h4.2.1,h4.2.2⟩;rw[aE0.2 h]at h2;cases h2
 have hdr:∀ b∈s.hp,b.l∈drops->b.rw=true:=fun b hb hd=>by
  have:=av.1 k4 b hb;rw[bp]at this;rcases this with h|h
  .rw[aE0.2 hd]at h;cases h
  .exact h
 have hT:∀ i,((∃ b∈nbs,i=N b.l)\/(∃ d∈s.hp,d.l∈drops/\d.G0 N/\fp N d i)\/∃ b∈ow,∃ d∈s.hp,d.l=b.l/\(d.own=true/\d.rw=true)/\fp N d i)->S i\/w0.heap.size<=i:=by
  rintro i (⟨nb,hb,rfl⟩|⟨d,hd,hdd,hr,hi⟩|⟨b,hb,d,hd,hl,⟨heo,hew⟩,hi⟩)
  .obtain⟨_,_,b,hb',hl,_,hr,hw⟩:=hnb nb hb;rw[<-hl];exact hM.ar5 b hb' hw hr
  .exact hM.may d hd (hdr d hd hdd) hr i hi
  .exact hM.may d hd hew (bA0 heo) i hi
 have hmem:∀ x,x∈(s.chg drops nbs adds bs ow).hp->x∈adds\/x∈ow\/x∈nbs\/(x∈s.hp/\(∀ b∈nbs,x.l≠b.l)/\¬x.l∈drops/\∀ b∈ow,x.l≠b.l):=fun x hx=>by
  rcases bc6 hx with h|h
  .exact .inl h
  .rcases bN7 h with h|⟨h,hn⟩
   .rcases aC.1 h with h|h
    .exact .inr (.inl (Option.mem_toList.1 h))
    .exact .inr (.inr (.inl h))
   .have:=List.mem_filter.1 h;refine .inr (.inr (.inr ⟨this.1,fun b hb=>hn b (aV _ hb),fun hd=>?_,fun b hb=>hn b (aX _ (Option.mem_toList.2 hb))⟩));have h2:=this.2;rw[aE0.2 hd]at h2;cases h2
 have away:∀ x∈adds,x.G0 N'->∀ y∈s.hp,y.G0 N->¬y.l∈drops->∀ g,fp N' x g->¬fp N y g:=fun x hx hr y hy hry hyd g hg hyg=>by
  rcases hC.fresh x hx hr g hg with⟨d,hd,hdd,hdr',e⟩|h
  .exact hM.ne d hd y hy (fun e=>hyd (e ▸ hdd)) hdr' hry g e hyg
  .have:=(hM.hp y hy).ax9 hry hyg;omega
 have owaway:∀ o∈ow,∀ y∈s.hp,y.G0 N->y.l≠o.l->∀ g,fp N' o g->¬fp N y g:=fun o ho y hy hry hne g hg hyg=>by
  rcases(hC.own o ho).2 g hg with⟨d,hd,hl,⟨heo,_⟩,e⟩|h
  .exact hM.ne d hd y hy (fun q=>hne (q ▸ hl)) (bA0 heo) hry g e hyg
  .have:=(hM.hp y hy).ax9 hry hyg;omega
 have rest:∀ x,(x∈nbs\/(x∈s.hp/\(∀ b∈nbs,x.l≠b.l)/\¬x.l∈drops/\∀ b∈ow,x.l≠b.l))->x.G0 N'->∃ b∈s.hp,b.l=x.l/\b.G0 N/\¬b.l∈drops/\(∀ o∈ow,b.l≠o.l)/\∀ g,fp N' x g->fp N b g:=by
  rintro x (h|⟨h,hn,hd,ho⟩) hr
  .obtain⟨hnl,hd,b,hb,hl,hbn,hrb,_⟩:=hnb x h;refine⟨b,hb,hl,hrb,by rw[hl];exact hd,fun o ho e=>(hOw o ho).2.2.1 x h (hl.symm.trans e),fun g hg=>?_⟩;rw[Q9 hnl hg,<-hl,(old2 b hb).1];exact I4 N b
  .refine⟨x,h,rfl,hr.imp id fun q=>by rw[<-(old2 x h).2.1];exact q,hd,ho,fun g hg=>?_⟩;exact(Z9 (old2 x h).1 (old2 x h).2.2 g).1 hg
 refine⟨?_,?_,?_,?_,?_,?_,?_⟩
 .rw[hM.act];congr 2;apply aG;intro x hx;exact(SV.bq5 J hC.old (av.1 k1 x hx)).symm
 .intro x hx;rcases hmem x hx with h|h|h|⟨h,hn,hd,ho⟩
  .exact hC.add x h
  .exact(hC.own x h).1
  .exact hC.nb x h
  .refine BkOk.at7 ((hM.hp x h).bD0 fun hr g hg hlt=>hC.only.block _ hlt ?_) (old2 x h).1 (fun _=>(old2 x h).2.1) (old2 x h).2.2;rintro(⟨nb,hb,e⟩|⟨d,hd1,hd2,hd3,e⟩|⟨b,hb,d,hd1,hl,⟨heo,_⟩,e⟩)
   .obtain⟨_,_,b,hb',hl,_,hrb,_⟩:=hnb nb hb;rw[<-hl]at e;exact hM.ne x h b hb' (by rw[hl];exact hn nb hb) hr hrb g hg (e ▸ I4 N b)
   .exact hM.ne x h d hd1 (fun e=>hd (e ▸ hd2)) hr hd3 g hg e
   .exact hM.ne x h d hd1 (fun q=>ho b hb (q.trans hl)) hr (bA0 heo) g hg e
 .intro x hx y hy hne hrx hry;rcases hmem x hx with hx|hx|hx<;>rcases hmem y hy with hy|hy|hy
  .exact hC.ne x hx y hy hne hrx hry
  .exact hC.neo x hx y hy hrx
  .obtain⟨b,hb,hl,hr,hd,ho,e⟩:=rest y hy hry;exact fun g gx gy=>away x hx hrx b hb hr hd g gx (e g gy)
  .exact(hC.neo y hy x hx hry).b91
  .rw[show ow=some x from hx]at hy;injection hy with hy;exact absurd (by rw[hy]) hne
  .obtain⟨b,hb,hl,hr,hd,ho,e⟩:=rest y hy hry;exact fun g gx gy=>owaway x hx b hb hr (ho x hx) g gx (e g gy)
  .obtain⟨b,hb,hl,hr,hd,ho,e⟩:=rest x hx hrx;exact fun g gx gy=>away y hy hry b hb hr hd g gy (e g gx)
  .obtain⟨b,hb,hl,hr,hd,ho,e⟩:=rest x hx hrx;exact fun g gx gy=>owaway y hy b hb hr (ho y hy) g gy (e g gx)
  .obtain⟨b,hb,hl,hr,hd,_,e⟩:=rest x hx hrx;obtain⟨b2,hb2,hl2,hr2,hd2,_,e2⟩:=rest y hy hry;exact fun g gx gy=>hM.ne b hb b2 hb2 (by rw[hl,hl2];exact hne) hr hr2 g (e g gx) (e2 g gy)
 .intro x hx hw hr g hg;rcases hmem x hx with h|h|h|h
  .rcases hC.fresh x h hr g hg with⟨d,hd,hdd,hdr',e⟩|h
   .exact hM.may d hd (hdr d hd hdd) hdr' g e
   .exact .inr (bu hM.only.size h)
  .rcases(hC.own x h).2 g hg with⟨d,hd,hl,⟨heo,hew⟩,e⟩|h'
   .exact hM.may d hd hew (bA0 heo) g e
   .exact .inr (bu hM.only.size h')
  .obtain⟨hnl,hd,b,hb,hl,_,hrb,hwb⟩:=hnb x h;rw[Q9 hnl hg,<-hl,(old2 b hb).1];exact hM.ar5 b hb hwb hrb
  .obtain⟨b,hb,hl,hrb,_,_,e⟩:=rest x (.inr h) hr;exact hM.may x h.1 hw (hr.imp id fun q=>by rw[<-(old2 x h.1).2.1];exact q) g ((Z9 (old2 x h.1).1 (old2 x h.1).2.2 g).1 hg)
 .refine⟨fun x hx=>?_,hM.cx.2⟩;rcases aC.1 hx with hx|hx
  .exact hbs x hx
  .exact hM.cx.1 x hx
 .exact Sy.Only.dR7 hM.only hC.only hT
 .intro l hl;rw[hC.old l U];exact hM.old l hl
structure Did where
 m:List Tm
 drops:List Nat
 nbs:List Bk
 adds:List Bk
 v:SV
 bs:List Bd
 ow:Option Bk:=none
def R4(f:FuncId)(sel:St->List SV->Option Did):Spec where
 f:=f
 pre:=fun s xs=>(sel s xs).map Did.m
 go:=fun n0 s xs=>match sel s xs with
  | some d=>if cX8 n0 s d.drops d.nbs d.adds d.ow then some (s.chg d.drops d.nbs d.adds d.bs d.ow,d.v)else none
  | none=>none
theorem U1{P:Program}{J:Env}{f:FuncId}{sel:St->List SV->Option Did}
 (h:∀{s:St} {xs:List SV} {d:Did},sel s xs=some d->s.cx.ok J->Met J d.m->∀{N:Bn} {w:World},(∀ b∈s.hp,BkOk J N w b)->(∀ x∈s.hp,∀ y∈s.hp,x.l≠y.l->x.G0 N->y.G0 N->apart N x y)->
   X5 J d.bs/\Calls P f (xs.map (SV.A1 J N)).toArray w fun e w'=>∃ N',e= .returned (d.v.A1 J N')/\Chg J N N' w w' s d.drops d.nbs d.adds d.ow):(R4 f sel).Ok P J:=by
 intro B s xs m s' v hB hpre hgo hm N a w hM;subst hB;simp only[R4]at hpre hgo;cases hs:sel s xs with
 | none=>rw[hs]at hgo;cases hgo
 | some d=>
   rw[hs]at hpre hgo;injection hpre with hpre;subst hpre;simp only[]at hgo;split at hgo
   .rename_i q;injection hgo with hgo;injection hgo with e1 e2;subst e1 e2;obtain⟨hb,hc⟩:=h hs hM.cx hm hM.hp hM.ne;refine hc.mono ?_;rintro e w' ⟨N',rfl,hC⟩;exact⟨N',a,rfl,Sy.Md.chg hM q hC hb⟩
   .cases hgo
end Sy
end Go.Proofs.YtnlcpcmdlcakgaaGreat
namespace Go.Proofs.YtnlcpcmdlcakgaaGreat
open Go.RowKit
theorem af1(a m:Int)(w:World)(ha: -9223372036854775808<=a)(ha':a<=9223372036854775807)(hb:1<=m)(hb':m<=9223372036854775807):
 Calls prog 59 #[.int .i64 a, .int .i64 m] w fun e w'=>e= .returned (.int .i64 (a % m))/\w=w':=by
 have h1:=Int.emod_nonneg a (show m≠0 by omega);have h2:=Int.emod_lt_of_pos a (show 0<m by omega);have h3:a.tmod m=a % m\/(a.tmod m<0/\a.tmod m+m=a % m):=by
  by_cases h0:0<=a
  .left;exact Int.tmod_eq_emod_of_nonneg h0
  .rw[Int.tmod_eq_emod];by_cases hd:m∣a
   .left;simp[hd]
   .right;rw[if_neg (by simp[hd];omega)];omega
 have H3:Hid (a.tmod m=a % m\/(a.tmod m<0/\a.tmod m+m=a % m)):=h3;clear h3;go_enter func59,ntmps59;go_wp2
 .go_ret;exact⟨aL1 (by show wrap64 (a.tmod m+m)=_;have:=H3.out;unfold wrap64;omega),rfl⟩
 .go_ret;exact⟨aL1 (by show a.tmod m=_;have:=H3.out;omega),rfl⟩
theorem bm2:(prog.info? 44).map (·.size)=some 45:=by kernel_rfl
theorem dU9(cs:List Value)(k n:Int)(w:World)(h0:cs[0]? =some (.int .i64 k))(hk: -9223372036854775808<=k)(hk':k<=9223372036854775807)(hn:1<=n)(hn':n<=4294967296):
 Calls prog 22 #[.agg cs.toArray, .int .i64 n] w fun e w'=>e= .returned (.int .i64 (k % n))/\Below w.heap.size w w':=by
 have hb:=Blk.new w 44 cs;have hc:=hb.at_ h0;clear h0 hb;go_enter func22,ntmps22;go_wp2_with (go_at_call 59;refine(af1 _ _ _ U U U U).mono ?_;rintro e w' ⟨rfl,rfl⟩);go_ret;exact⟨rfl,by go_grown⟩
end Go.Proofs.YtnlcpcmdlcakgaaGreat
namespace Go.Proofs.YtnlcpcmdlcakgaaGreat
namespace Sy
open Go Go.RowKit
def eG3:Spec:=aa1 22 (fun c xs=>match xs with
    | [.one (.agg (.int .i64 x::_)), .one (.c (.int .i64 (.il n)))]=>if Y6 1 n&&Y6 n 4294967296 then some (F9 c (.le (.il (-9223372036854775808)) x)++F9 c (.le x qb2))else none
    | _=>none) (fun _ xs=>match xs with
    | [.one (.agg (.int .i64 x::_)), .one (.c (.int .i64 (.il n)))]=>some (.one (.c (.int .i64 (.md x (.il n)))),[])
    | _=>none)
theorem dn4{J:Env}:eG3.Ok prog J:=by
 refine aY3 fun c xs m v bs hc hpre hres hm=>?_
 split at hres
 .rename_i x l n;simp only[]at hpre;split at hpre
  .rename_i q;simp only[m5]at q;have q1:1<=n:=by simpa[Y6]using q.1
   have q2:n<=4294967296:=by simpa[Y6]using q.2
   injection hpre with hpre;injection hres with hres;injection hres with h1 h2;subst hpre h1 h2;have l1:=B2 (z0 hc hm.l);have l2:=B2 (z0 hc hm.r);change(-9223372036854775808:Int)<=_ at l1;change _<=(9223372036854775807:Int)at l2;refine⟨fun x hx=>(by cases hx),fun N w=>?_⟩;exact(dU9 (Value.int .i64 (u9 J x).i::A5 J N l) (u9 J x).i n w rfl l1 l2 q1 q2).mono fun e w' h=>h
  .cases hpre
 .cases hres
end Sy
end Go.Proofs.YtnlcpcmdlcakgaaGreat
namespace Go.Proofs.YtnlcpcmdlcakgaaGreat
namespace Sy
open Go Go.RowKit Go.BigFrame
def stZ(P:Program)(t:TypeId):List C:=(ae4 P t).getD []
def xC:List C:=bu3 100 0 V3
def aF9(fn:Func)(p:List Nat):Code:=Y9 (Sy.I9 (p++[1,2]) (y7 fn))
def aP0:List Nat:=[1,1,0,2,0]
def aF1(P:Program)(fn:Func)(p:List Nat)(T:St)(n0:Nat):Rs:=R6 P [] 10 400 n0 (.code (pre aP0 (aF9 fn p))) T
def ba2(P:Program)(fn:Func)(p:List Nat)(T:St)(n0:Nat)(nr:Nat)(d1 d2 d3:Tmp):St:=dQ8 (I1 (aF1 P fn p T n0) 0) nr 44 xC 1025 d1 d2 d3
structure SaysCode(P:Program)(fn:Func)(p:List Nat)(T:St)(n0 nr:Nat)(x0 vx vl vi d1 d2 d3:Tmp):Prop where
 rg4:∃ o1 o2 o3:Oper,Sy.I9 (p++[0]) (y7 fn)= .region (bj4 (Sy.I9 (p++[0]) (y7 fn))) #[o1,o2,o3] false/\(o1.op= .move (.tmp x0)/\o1.dst=some vx/\o1.guard=none)/\(o2.op= .call ⟨.builtin .len,#[.tmp vx],#[25]⟩/\o2.dst=some vl/\o2.guard=none)/\(o3.op= .move (.const (.int .i64 0))/\o3.dst=some vi/\o3.guard=none)
 at_:Sy.I9 p (y7 fn)= .seq (Sy.I9 (p++[0]) (y7 fn)) (.block 0 (.loop (aF9 fn p)))
 hd:shR n0 none (aF1 P fn p T n0)=some [.out 0 .normal (.lt j9 m8::T.cx.pc), .out 1 (.exit 0) (.not (.lt j9 m8)::T.cx.pc)]
 row:RowOps (bj4 (Sy.I9 aP0 (aF9 fn p))) (Sy.I9 aP0 (aF9 fn p)) 25 44 vx vi d1 d2 d3
 lo1:bu1 100 (I1 (aF1 P fn p T n0) 0)=true
 any1:an3 1025 (I1 (aF1 P fn p T n0) 0).tm=true
 tx:(I1 (aF1 P fn p T n0) 0).tm[vx]? =some (.one (.c (.opq 0)))
 ti:(I1 (aF1 P fn p T n0) 0).tm[vi]? =some (.one (.c (.int .i64 j9)))
 hnr:n0<=nr
 free:(a15 (I1 (aF1 P fn p T n0) 0) xC 1025 d1 d2).T8 nr=true
 e1:(cT5 (I1 (aF1 P fn p T n0) 0) 1025 d1).tm[d1]? =some (.any 1025)
 e2:(a15 (I1 (aF1 P fn p T n0) 0) xC 1025 d1 d2).tm[d2]? =some (.one (.agg xC))
 e3:(((a15 (I1 (aF1 P fn p T n0) 0) xC 1025 d1 d2).new nr 44 xC).put (some d3) (.one (.c (.ptr nr 0)))).tm[d3]? =some (.one (.c (.ptr nr 0)))
 e4:(((a15 (I1 (aF1 P fn p T n0) 0) xC 1025 d1 d2).new nr 44 xC).put (some d3) (.one (.c (.ptr nr 0)))).tm[d2]? =some (.one (.agg xC))
 out:bS0 0 aP0 (aF9 fn p)=true
 uS:P.underlying 25=some (.slice 44)
 uE:∃ d,P.underlying 44=some d/\d.isRow=true
 inf:(P.info? 44).map (·.size)=some 45
 zero:ae4 P 44=some (stZ P 44)
 zlen:(stZ P 44).length=xC.length
theorem a39:xC.length=45:=rfl
theorem bN6{P:Program}{w:World}{a:Option Addr}{len cap:Nat}{t e ty:TypeId}(ht:P.underlying t=some (.slice e)):(Builtin.len_ #[t] ty #[.slice a len cap]).run P w= .ok (.int .i64 (len:Int)) w:=by
 simp only[Builtin.len_,bi,be,am,run_underlying ht,ai,aq];rfl
def aR3(J:Env):Nat:=(J.i 1 - J.i 0).toNat
def b38(s:St)(vx vl vi:Tmp):St:=((s.put (some vx) (.one (.c (.opq 0)))).put (some vl) qdz).put (some vi) qad 
theorem cS6{P:Program}{fn:Func}{p:List Nat}{T:St}{n0 nr:Nat}{x0 vx vl vi d1 d2 d3:Tmp}(L:SaysCode P fn p T n0 nr x0 vx vl vi d1 d2 d3){S:Nat->Prop}{w0:World}{N0:Bn}{vs:Value}{len:Nat}{C:Nat->List Value}
 (hS:∀ g,g<w0.heap.size->¬S g)
 (hC:∀ i,i<len->∃ b off cap,vs= .slice (some ⟨b,off,none⟩) len cap/\T5 V3 (C i)/\w0.rangeAt b (off+i*45) (C i)) {Q:Exit->Act->World->Prop} {I:Env->Prop}
 (hI:∀ J,I J->J.R8/\J.v 0=vs/\0<=J.i 0/\J.i 0<=J.i 1/\J.i 1=(len:Int))
 (round:∀ J,I J->J.i 0<J.i 1->∀ cs,T5 V3 cs->∀ u N a w,Md { J.hi 100 cs with u:=u } S w0 N0 n0 (ba2 P fn p T n0 nr d1 d2 d3) N a w->Y7 P aP0 (aF9 fn p) (Exit.then (ao1 S w0 N0 n0 T I aR3 (aR3 J)) Q) .normal a w)
 (fin:∀ J,I J->J.i 0=J.i 1->∀ N a w,Md J S w0 N0 n0 (I1 (aF1 P fn p T n0) 1) N a w->Q (.exit 0) a w)
 {J:Env} (h:I J) {N:Bn} {a:Act} {w:World} (hM:Md J S w0 N0 n0 T N a w):(aF9 fn p).wp P (Exit.then (ao1 S w0 N0 n0 T I aR3 (aR3 J)) Q) a w:=by
 obtain⟨hg,hv,hi0,hi1,hlen⟩:=hI J h;refine ag2 (B:=⟨J,S,w0,N0,n0⟩) (sp:=[]) (p:=aP0) (s:=T) (r:=aF1 P fn p T n0) hg (fun q hq=>by cases hq) rfl rfl L.hd ⟨?_,?_,trivial⟩ hM
 .intro hpc N a w1 hM1;have hlt:J.i 0<J.i 1:=by
   have:=hpc.1;rw[A7,F0,F0]at this;exact this
  obtain⟨k,hk⟩:∃ k:Nat,J.i 0=(k:Int):=⟨(J.i 0).toNat,by omega⟩;have hkl:k<len:=by omega
  obtain⟨b,off,cap,hvl,hleaf,hr0⟩:=hC k hkl;have hb:b<w0.heap.size:=by
   have hl:=aU4 hleaf;cases hc:C k with
   | nil=>rw[hc]at hl;cases hl
   | cons v vs'=>exact World.block_lt_of_cell? w0 _ (hr0 0 v (by rw[hc];rfl))
  have hr1:w1.rangeAt b (off+k*45) (C k):=hM1.only.dS4 hr0 (hS b hb);have M2:=Sy.Md.hi hM1 100 (C k) L.lo1;have M3:=Sy.Md.dI4 M2 1025 (.pointer (some ⟨b,off+k*45,none⟩)) L.any1;have hden:A5 { J.hi 100 (C k)with u:=fun n=>if n=1025 then .pointer (some ⟨b,off+k*45,none⟩)else(J.hi 100 (C k)).u n } N xC=C k:=by
   rw[a54];exact ap6 hleaf (fun i x hx=>by rw[Nat.zero_add];exact hx)
  obtain⟨d,hd1,hd2⟩:=L.uE;show(Sy.I9 aP0 (aF9 fn p)).wp P (Y7 P aP0 (aF9 fn p) _) a w1;refine co4 (show Env.R8 { J.hi 100 (C k)with u:=fun n=>if n=1025 then .pointer (some ⟨b,off+k*45,none⟩)else(J.hi 100 (C k)).u n }from hg) M3 L.row (b:=b) (off:=off) (len:=len) (cap:=cap) (k:=k) (m:=1025) (n:=nr) (cs:=xC) L.tx (hv.trans hvl) L.ti (by show Value.int .i64 (J.i 0)=_;rw[hk]) hkl (by rw[a39];rfl) (by rw[a39,hden];exact hr1) L.uS hd1 hd2 (by rw[a39];exact L.inf) L.zero L.zlen L.hnr L.free rfl L.e1 L.e2 L.e3 L.e4 ?_;intro N2 a2 w2 M4;exact round J h hlt (C k) hleaf _ N2 a2 w2 M4
 .intro hpc N a w1 hM1;have hge:¬J.i 0<J.i 1:=by
   have:=hpc.1;rw[y9,A7,F0,F0]at this;exact this
  exact⟨au6 0 _ _ L.out,fin J h U N a w1 hM1⟩
theorem co2{P:Program}{fn:Func}{p:List Nat}{T:St}{n0 nr:Nat}{x0 vx vl vi d1 d2 d3:Tmp}(L:SaysCode P fn p T n0 nr x0 vx vl vi d1 d2 d3){S:Nat->Prop}{w0:World}{N0:Bn}{a0:Option Addr}{len cap:Nat}{C:Nat->List Value}
 (hS:∀ g,g<w0.heap.size->¬S g)
 (hC:∀ i,i<len->∃ b off cap',Value.slice a0 len cap= .slice (some ⟨b,off,none⟩) len cap'/\T5 V3 (C i)/\w0.rangeAt b (off+i*45) (C i)) {Q:Exit->Act->World->Prop} {I:Env->Prop}
 (hI:∀ J,I J->J.R8/\J.v 0= .slice a0 len cap/\0<=J.i 0/\J.i 0<=J.i 1/\J.i 1=(len:Int))
 (round:∀ J,I J->J.i 0<J.i 1->∀ cs,T5 V3 cs->∀ u N a w,Md { J.hi 100 cs with u:=u } S w0 N0 n0 (ba2 P fn p T n0 nr d1 d2 d3) N a w->∀ Q,Y7 P aP0 (aF9 fn p) (Exit.then (ao1 S w0 N0 n0 T I aR3 (aR3 J)) Q) .normal a w)
 (fin:∀ J,I J->J.i 0=J.i 1->∀ N a w,Md J S w0 N0 n0 (I1 (aF1 P fn p T n0) 1) N a w->Y7 P (p++[1]) (y7 fn) Q .normal a w)
 {J:Env} (hv:J.v 0= .slice a0 len cap) (hi1:J.i 1=(len:Int)) {s:St} (hx0:s.tm[x0]? =some (.one (.c (.opq 0)))) (hx1:(s.put (some vx) (.one (.c (.opq 0)))).tm[vx]? =some (.one (.c (.opq 0)))) (hok:okP p (y7 fn)=true)
 (enter:∀ N a w,Md J S w0 N0 n0 (b38 s vx vl vi) N a w->∃ J' N',I J'/\Md J' S w0 N0 n0 T N' a w) {N:Bn} {a:Act} {w:World} (hM:Md J S w0 N0 n0 s N a w):(Sy.I9 p (y7 fn)).wp P (Y7 P p (y7 fn) Q) a w:=by
 obtain⟨o1,o2,o3,hc,⟨p1,t1,g1⟩,⟨p2,t2,g2⟩,⟨p3,t3,g3⟩⟩:=L.rg4;have hat:=L.at_;rw[hat];rw[hc]at hat ⊢;refine wp_seq (wp_region_list ?_);show wpList _ _ _ [o1,o2,o3] a w;have M1:=Sy.Md.put hM (some vx) (.one (.c (.opq 0)));have M2:=Sy.Md.put M1 (some vl) qdz;have M3:=Sy.Md.put M2 (some vi) qad;refine aA3 (v:= .slice a0 len cap) (w':=w) g1 ?_ ?_
 .have:=Sy.Md.opd hM (x:= .tmp x0) hx0;unfold execOp;simp only[p1,this,am,aq,ai];show Result.ok (Next.value (J.v 0)) w=_;rw[hv]
 rw[t1];have hd1:(SV.one (.c (.opq 0))).A1 J N= .slice a0 len cap:=hv;rw[hd1]at M1 M2 M3;refine aA3 (v:= .int .i64 (len:Int)) (w':=w) g2 ?_ ?_
 .have:=(Sy.Md.opd M1 (x:= .tmp vx) hx1).trans hd1;unfold execOp;simp only[p2,resolve,invoke,builtin,am,aq,ai,List.map_toArray,aW,List.map_nil,this,bN6 L.uS]
 rw[t2];have hd2:(SV.one (.c (.int .i64 m8))).A1 J N= .int .i64 (len:Int):=by show Value.int .i64 (J.i 1)=_;rw[hi1]
 rw[hd2]at M2 M3;refine aA3 (v:= .int .i64 0) (w':=w) g3 ?_ ?_
 .unfold execOp;simp only[p3,Act.eval,am,aq,ai]
 rw[t3];refine wpList_nil ?_;obtain⟨J',N',hI',hM'⟩:=enter N _ w M3;show(Code.block 0 (.loop (aF9 fn p))).wp P (Y7 P p (y7 fn) Q) _ w;refine wp_block ?_;refine bB2 (w0:=w0) (T:=T) I aR3 (fun J hI1 N a w hM=>cS6 L hS hC hI (fun J h1 h2 cs h3 u N a w h4=>round J h1 h2 cs h3 u N a w h4 _) (fun J h1 h2 N a w h3=>?_) hI1 hM) hI' hM';have:=fin J h1 h2 N a w h3;have hsub:∀(p:List Nat) (c:Code) (Q:Exit->Act->World->Prop) (x y:Code),I9 p c= .seq x y->okP p c=true->∀ e a w,Y7 P (p++[1]) c Q e a w->Y7 P p c Q e a w:=by
  intro p
  induction p with
  | nil=>
    intro c Q x y h _ e a w hc;change c=_ at h;subst h;exact hc
  | cons d p ih=>
    intro c Q x y h hk e a w hc;rcases d with _|_|_|d
    .cases c<;>try(cases hk;done)
     exact ih _ _ _ _ h hk e a w hc
    .cases c<;>try(cases hk;done)
     exact ih _ _ _ _ h hk e a w hc
    .cases c<;>try(cases hk;done)
     .exact ih _ _ _ _ h hk e a w hc
     .exact ih _ _ _ _ h hk e a w hc
    .cases c<;>cases hk
 exact hsub p _ _ _ _ hat hok _ _ _ this
end Sy
end Go.Proofs.YtnlcpcmdlcakgaaGreat
namespace Go.Proofs.YtnlcpcmdlcakgaaGreat
open Go.RowKit Sy
def eB2:List Kd:=[.int .i64, .int .u8]
def kR(p:Int):List Value:=[.int .i64 p]
def inM(L:List (List Value))(p:Int):Option Nat:=fM 1 (kR p) L
def aB2(L:List (List Value)):Prop:=∀ r∈L,S1 eB2 r
def av7:List Value->Int
 | .int _ k::_=>k
 | _=>0
def Q7:List (List Value)->Int
 | []=>0
 | r::l=>max (av7 r+1) (Q7 l)
theorem aI8:∀ L:List (List Value),0<=Q7 L
 | []=>aF 0
 | r::l=>by
   have:=aI8 l;unfold Q7;omega
theorem dM1(L:List (List Value))(p:Int):0<=mIx 1 (kR p) L↔inM L p≠none:=by
 unfold mIx inM;cases fM 1 (kR p) L with
 | none=>simp
 | some j=>simp
theorem aV8{r:List Value}(h:S1 eB2 r):∃ k b:Int,r=[.int .i64 k, .int .u8 b]/\(Lit.int .i64 k).wf=true/\(Lit.int .u8 b).wf=true:=by
 rcases r with _|⟨x,_|⟨y,_|⟨z,r⟩⟩⟩
 .exact h.elim
 .exact h.2.elim
 .obtain⟨⟨k,hx,hk⟩,⟨b,hy,hb⟩,_⟩:=h;exact⟨k,b,by rw[hx,hy],hk,hb⟩
 .exact h.2.2.elim
theorem cz4(k b p:Int):sqR (([.int .i64 k, .int .u8 b]:List Value).take 1) (kR p)=decide (k=p):=by
 show(Nat.beq (kN .i64) (kN .i64)&&sqI k p&&true)=_;rw[Nat.beq_refl,Bool.true_and,Bool.and_true];by_cases h:k=p
 .rw[h,ab3.2 rfl];simp
 .rw[bc.2 fun e=>h (ab3.1 e)];simp[h]
theorem a80(k b p:Int)(l:List (List Value)):inM ([.int .i64 k, .int .u8 b]::l) p=if k=p then some 0 else(inM l p).map (· +1):=by
 unfold inM;rw[fM,cz4];simp
theorem bY1:∀{L:List (List Value)} {p:Int},aB2 L->inM L p≠none->p<Q7 L
 | [],p,_,h=>absurd rfl h
 | r::l,p,hg,h=>by
   obtain⟨k,b,rfl,_,_⟩:=aV8 (hg r (ae ..));rw[a80]at h;show p<max (k+1) (Q7 l);split at h
   .omega
   .have:inM l p≠none:=fun e=>h (by rw[e];rfl)
    have:=bY1 (fun r hr=>hg r (aj _ hr)) this;omega
def bQ7(L:List (List Value)):Nat->Int->Int
 | 0,r=>r
 | n+1,r=>match inM L r with
   | none=>r
   | some _=>bQ7 L n (r+1)
def L1(L:List (List Value))(r:Int):Int:=bQ7 L (Q7 L - r).toNat r
theorem bn3{L:List (List Value)}(hg:aB2 L):∀(n:Nat) (r:Int),Q7 L - r<=(n:Int)->r<=bQ7 L n r/\inM L (bQ7 L n r)=none/\∀ p,r<=p->p<bQ7 L n r->inM L p≠none
 | 0,r,h=>by
   refine⟨aF r,?_,fun p h1 h2=>?_⟩
   .show inM L r=none;cases q:inM L r with
    | none=>rfl
    | some j=>
      have:=bY1 hg (show inM L r≠none by rw[q];simp);omega
   .have h2:p<r:=h2;omega
 | n+1,r,h=>by
   unfold bQ7;cases q:inM L r with
   | none=>exact⟨aF r,q,fun p h1 h2=>by have h2:p<r:=h2;omega⟩
   | some j=>
     obtain⟨h1,h2,h3⟩:=bn3 hg n (r+1) U;refine⟨show r<=bQ7 L n (r+1)by omega,h2,fun p hp hp2=>?_⟩;by_cases e:p=r
     .rw[e,q];simp
     .exact h3 p U hp2
theorem aR8{L:List (List Value)}(hg:aB2 L)(r:Int):r<=L1 L r/\inM L (L1 L r)=none/\∀ p,r<=p->p<L1 L r->inM L p≠none:=bn3 hg _ r U
theorem cj6{L:List (List Value)}(hg:aB2 L){r e:Int}(h1:r<=e)(h2:inM L e=none)(h3:∀ p,r<=p->p<e->inM L p≠none):L1 L r=e:=by
 obtain⟨g1,g2,g3⟩:=aR8 hg r;rcases Int.lt_trichotomy (L1 L r) e with h|h|h
 .exact absurd g2 (h3 _ g1 h)
 .exact h
 .exact absurd h2 (g3 _ h1 h)
theorem ao6{L:List (List Value)}(hg:aB2 L)(r:Int):L1 L r<=max r (Q7 L):=by
 obtain⟨g1,g2,g3⟩:=aR8 hg r;by_cases h:L1 L r<=r
 .omega
 .have:=bY1 hg (g3 (L1 L r - 1) U U);omega
def inT(l:Nat)(rw:Bool)(t:Tm):Bk:=⟨l,0,[],rw,none, .mp [.int .i64] false (.int .u8) t⟩
def inO(l m:Nat)(rw:Bool)(r f:Tm):Bk:=⟨l,135,[.map m, .int .i64 r, .int .i64 f],rw,none, .no⟩
def byP:List Nat:=[1,1,2]
def B61(t:Tm):Bd:=⟨t,0,2305843009213693952⟩
def c54:List Bd:=[B61 j9]
def c53:Sy.St:=⟨[],[inO 0 2 false j9 m8,inT 2 false j8],⟨c54,[]⟩,4⟩
def by0(P:Program)(fn:Func):Rs:=R6 P [] 10 400 4 (.code (pre byP (y7 fn))) (L3 fn [.one (.c (.ptr 0 0))] c53)
def byT(P:Program)(fn:Func):Sy.St:=b18 (I1 (by0 P fn) 0) (Y9 (Sy.I9 byP (y7 fn))) [(3, .one (.c (.int .i64 m9)))] [] ⟨B61 m9::c54,[]⟩ 30
def by1(P:Program)(fn:Func):Rs:=R6 P [] 10 400 4 (.code (Y9 (Sy.I9 byP (y7 fn)))) (byT P fn)
def byC:Tm:= .le i9 (an5 1 j8 (.tb qax m9 ak9 i9))
theorem dh8:shR 4 none (by0 prog f115)=some [.out 0 .normal []]:=by kernel_rfl
theorem c51:(aA1 4 (byT prog f115) (I1 (by0 prog f115) 0)).map noU=some [.i 2 j9]:=by kernel_rfl
theorem dh7:shR 4 (some (byT prog f115)) (by1 prog f115)=some (fq8 [.d byC,.l (.out 0 .ret),.l (.back [.i 2 (.add m9 l9)])] [[]]):=by kernel_rfl
theorem dh9:Code.loop (Y9 (Sy.I9 byP (y7 f115)))=Sy.I9 byP (y7 f115):=by kernel_rfl
theorem eD8:aD7 prog (I1 (by1 prog f115) 0) f115.results.toList=some (.one (.c (.int .i64 m9))):=by kernel_rfl
theorem eS0:(byT prog f115).cx=⟨B61 m9::c54,[]⟩:=by kernel_rfl
theorem cl2{J:Env}:(u9 J byC).b=true↔inM (J.c 0) (J.i 2)≠none:=by
 rw[byC,E5,ap5 (k:=kR (J.i 2)) rfl];exact dM1 _ _
structure ByI(L:List (List Value))(read:Int)(J:Env):Prop where
 g:J.R8
 c0:J.c 0=L
 i0:J.i 0=read
 le:read<=J.i 2
 up:J.i 2<=L1 L read
def aG3(gm:Nat)(read fin:Int):List Value:=[.map (some gm), .int .i64 read, .int .i64 fin]
theorem c52{w:World}{g gm:Nat}{L:List (List Value)}{read fin:Int}(hO:Blk w g 135 (aG3 gm read fin))(hT:MapT w gm [.int .i64] false (.int .u8) L)(hne:g≠gm)(h0:0<=read)(h1:read<=2305843009213693952)(hk:Q7 L<=2305843009213693952):
 Calls prog 115 #[.pointer (some ⟨g,0,none⟩)] w (F7 fun v w'=>v= .int .i64 (L1 L read)/\Below w.heap.size w w'):=by
 have hg:aB2 L:=hT.ok;have hgl:=ao6 hg read;obtain⟨g1,g2,g3⟩:=aR8 hg read
 let J0:Env:= { U9 [read,fin] [] [] []with c:=fun _=>L }
 let N0:Bn:=fun n=>if n=0 then g else gm
 have hM0:Md J0 (fun _=>False) w N0 4 c53 N0 ⟨#[],[]⟩ w:=Sy.Md.ax8 ⟨hO,hT,trivial⟩ ⟨⟨fun _ _=>apart.of rfl rfl hne,trivial⟩,trivial,trivial⟩ ⟨fun h=>bF,fun h=>bF,trivial⟩ (cxP ⟨⟨h0,h1⟩,trivial⟩ trivial) rfl;refine aH2 (B:=⟨J0,fun _=>False,w,N0,4⟩) (sp:=[]) (p:=byP) (xs:=[.one (.c (.ptr 0 0))]) (s:=c53) (r:=by0 prog f115) (fun i=>rfl) (fun q hq=>by cases hq) rfl func115 rfl rfl dh8 hM0 ⟨?_,trivial⟩ rfl;intro _ N a w1 hM1;show(Sy.I9 byP (y7 f115)).wp prog _ a w1;rw[<-dh9];have cx:∀ J,ByI L read J->(byT prog f115).cx.ok J:=fun J I=>by
  rw[eS0];have:=I.i0;have:=I.le;have:=I.up;exact cxP ⟨⟨show 0<=J.i 2 by omega,show J.i 2<=2305843009213693952 by omega⟩,⟨show 0<=J.i 0 by omega,show J.i 0<=2305843009213693952 by omega⟩,trivial⟩ trivial
 have hI1:∀ u,ByI L read { J0.L5 N [.i 2 j9]with u:=u }:=fun u=>⟨fun i=>rfl,rfl,rfl,aF _,g1⟩
 obtain⟨u,N',hM2⟩:=Sy.Md.aL7 hM1 c51 fun u=>cx _ (hI1 u)
 refine aK0 (w0:=w) (r:=by1 prog f115) rfl dh7 (ByI L read) (fun J=>(L1 L read - J.i 2).toNat) (fun J I=>I.g) (fun J I q hq=>by cases hq) cx ?_ (hI1 u) hM2;intro J I;have hle:=I.le;have hup:=I.up;refine⟨?_,?_,trivial⟩
 .intro hpc N a w' hM;have hn:inM L (J.i 2)=none:=by
   have h:¬(u9 J byC).b=true:=by
    have:=hpc.1;rwa[y9]at this
   rw[cl2,I.c0]at h;exact Classical.not_not.1 h
  refine aQ5 byP (y7 f115) _ (aL9 (B:=⟨J,fun _=>False,w,N0,4⟩) hM eD8 ⟨?_,Sy.Only.R9 hM.only⟩);show Value.int .i64 (J.i 2)=_;rcases Int.lt_or_le (J.i 2) (L1 L read)with h|h
  .exact absurd hn (g3 _ hle h)
  .rw[show J.i 2=L1 L read from by omega]
 .intro hpc N u;have hn:inM L (J.i 2)≠none:=by
   have h:(u9 J byC).b=true:=hpc.1;rw[cl2,I.c0]at h;exact h
  have hlt:J.i 2<L1 L read:=by
   rcases Int.lt_or_le (J.i 2) (L1 L read)with h|h
   .exact h
   .exact absurd g2 (by rw[show L1 L read=J.i 2 from by omega];exact hn)
  refine⟨⟨I.g,I.c0,I.i0,?_,?_⟩,?_⟩
  .show read<=J.i 2+1;omega
  .show J.i 2+1<=_;omega
  .show(L1 L read - (J.i 2+1)).toNat<(L1 L read - J.i 2).toNat;omega
def cD2:List Kd->Kd->Bool
 | [.int .i64], .int .u8=>true
 | _,_=>false
def a75(s:Sy.St)(l:Nat):Option (Nat × Tm × Tm × Tm):=
 match aD0 l s.hp with
 | some b=>match b.str,b.x,b.cs with
   | none, .no,[.map m, .int .i64 r, .int .i64 f]=>if Nat.beq b.ty 135 then(match ac0 s.hp m with
     | some (_,ks,false,v,t)=>if cD2 ks v&& !(Nat.beq l m)then some (m,t,r,f)else none
     | _=>none)else none
   | _,_,_=>none
 | none=>none
structure OwnIn(J:Env)(N:Bn)(w:World)(s:Sy.St)(l m:Nat)(t r f:Tm):Prop where
 blk:Blk w (N l) 135 (aG3 (N m) (u9 J r).i (u9 J f).i)
 map:MapT w (N m) [.int .i64] false (.int .u8) (u9 J t).c
 ne:N l≠N m
 bl:∃ b∈s.hp,b.l=l/\b.L4=false
 bm:∃ b∈s.hp,b.l=m/\b.L4=false
theorem af3{J:Env}{N:Bn}{w:World}{s:Sy.St}{l m:Nat}{t r f:Tm}(h:a75 s l=some (m,t,r,f))(hb:∀ b∈s.hp,BkOk J N w b)(hne:∀ x∈s.hp,∀ y∈s.hp,x.l≠y.l->x.G0 N->y.G0 N->N x.l≠N y.l):OwnIn J N w s l m t r f:=by
 unfold a75 at h;split at h
 .rename_i b hf;obtain⟨hbm,hbl⟩:=U4 hf;split at h
  .rename_i m' r' f' hs hx hcs;split at h
   .rename_i qt;have qt:=af qt;split at h
    .rename_i c ks v t' hmf;obtain⟨hcm,hcl,hcstr,hcx⟩:=ab9 hmf;split at h
     .rename_i q;injection h with h;injection h with e1 h;injection h with e2 h;injection h with e3 e4;subst e1 e2 e3 e4;rw[m5,aN]at q;have hlm:l≠m':=T3 q.2;have hkv:ks=[.int .i64]/\v= .int .u8:=by
       have:=q.1;unfold cD2 at this;split at this
       .exact⟨rfl,rfl⟩
       .cases this
      obtain⟨rfl,rfl⟩:=hkv;have h1:=hb b hbm;unfold BkOk at h1;rw[hs]at h1;simp only[hx,hcs,hbl,qt]at h1;have h2:=(hb c hcm).map hcstr hcx;rw[hcl]at h2;have nb:b.L4=false:=by unfold Bk.L4;rw[hs,hx];rfl
      have nc:c.L4=false:=by unfold Bk.L4;rw[hcstr,hcx];rfl
      refine⟨h1,h2,?_,⟨b,hbm,hbl,nb⟩,⟨c,hcm,hcl,nc⟩⟩;have:=hne b hbm c hcm (by rw[hbl,hcl];exact hlm) (.inl nb) (.inl nc);rwa[hbl,hcl]at this
     .cases h
    .cases h
   .cases h
  .cases h
 .cases h
def L61:Tm:= .il 2305843009213693952
def cj4(c:Cx)(t r:Tm):List Tm:=F9 c (.le i9 r)++(F9 c (.le r L61)++F9 c (.le (.ap 31 t i9 i9) L61))
def cQ8(s:Sy.St):List SV->Option Did
 | [.one (.c (.ptr l 0))]=>match a75 s l with
   | some (m,t,r,f)=>some ⟨cj4 s.cx t r,[],[],[], .one (.c (.int .i64 (.ap 30 t r i9))),[B61 (.ap 30 t r i9)],none⟩
   | none=>none
 | _=>none
def inF:Nat->Dn->Dn->Dn->Dn:=fun n x y z=>
 if n=30 then dI (L1 x.c y.i)else if n=31 then dI (Q7 x.c)else x
theorem Sy.Chg.bd7{J:Env}{N:Bn}{w w':World}{s:Sy.St}(h:Below w.heap.size w w'):Chg J N N w w' s [] [] []:=
 ⟨Only.aa7 h _,fun _ _=>rfl,fun b hb=>bG,fun b hb=>bG,fun b hb=>bG,fun b hb=>bG,fun b hb=>bG,fun b hb=>bG⟩
theorem cj3{J:Env}(hf:∀ x y z,J.f 31 x y z=dI (Q7 x.c)){c:Cx}(hc:c.ok J){t r:Tm}(h:Sy.Met J (cj4 c t r)):0<=(u9 J r).i/\(u9 J r).i<=2305843009213693952/\Q7 (u9 J t).c<=2305843009213693952:=by
 have h1:=B2 (z0 hc h.l);have h2:=B2 (z0 hc h.r.l);have h3:=B2 (z0 hc h.r.r);refine⟨h1,h2,?_⟩;have e:(u9 J (.ap 31 t i9 i9)).i=Q7 (u9 J t).c:=by
  show(J.f 31 _ _ _).i=_;rw[hf];rfl
 rw[e]at h3;exact h3
theorem cG4{J:Env}(hf:∀ x y z,J.f 31 x y z=dI (Q7 x.c))(hf2:∀ x y z,J.f 30 x y z=dI (L1 x.c y.i)):(R4 115 cQ8).Ok prog J:=by
 refine U1 fun{s xs d} hs hc hm {N w} hb hne=>?_
 unfold cQ8 at hs;split at hs
 .rename_i l;split at hs
  .rename_i m t r f ho;injection hs with hs;subst hs;obtain⟨h0,h1,h2⟩:=cj3 hf hc hm;have e:(u9 J (.ap 30 t r i9)).i=L1 (u9 J t).c (u9 J r).i:=by
    show(J.f 30 _ _ _).i=_;rw[hf2];rfl
   have O:=af3 (N:=N) (w:=w) ho hb fun x hx y hy q r1 r2=>(hne x hx y hy q r1 r2).ne
   refine⟨?_,?_⟩
   .intro x hx;rw[ah.1 hx];show(0:Int)<=(u9 J (.ap 30 t r i9)).i/\(u9 J (.ap 30 t r i9)).i<=2305843009213693952;rw[e];have g1:=ao6 O.map.ok (u9 J r).i;have g2:=(aR8 O.map.ok (u9 J r).i).1;omega
   .refine(c52 O.blk O.map O.ne h0 h1 h2).mono ?_;rintro e' w' ⟨v,rfl,rfl,hbel⟩;refine⟨N,?_,Sy.Chg.bd7 hbel⟩;show _=Ending.returned (.int .i64 (u9 J (.ap 30 t r i9)).i);rw[e]
  .cases hs
 .cases hs
end Go.Proofs.YtnlcpcmdlcakgaaGreat
