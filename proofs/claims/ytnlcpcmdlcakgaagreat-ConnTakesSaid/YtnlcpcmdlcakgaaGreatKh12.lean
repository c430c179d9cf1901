/- A part of the proof that a connection answers as the document says: SyW SyX SyY. -/
import Derived.Test.YtnlcpcmdlcakgaaGreatKh11
set_option maxRecDepth 100000
set_option maxHeartbeats 4000000
set_option linter.unusedVariables false
set_option linter.unusedSimpArgs false
set_option linter.unusedSectionVars false
namespace Go.Proofs.YtnlcpcmdlcakgaaGreat
namespace Sy
open Go Go.RowKit
theorem an8(J:Env)(u:Nat->Value)(t:Tm):u9 { J with u:=u } t=u9 J t:=by
 induction t<;>simp_all[u9]
theorem C.dS0(J:Env)(u:Nat->Value)(N:Bn)(x:C):x.G2 { J with u:=u } N=x.G2 J N:=by
 cases x<;>simp only[C.G2,Sy.an8]
theorem a54(J:Env)(u:Nat->Value)(N:Bn)(l:List C):A5 { J with u:=u } N l=A5 J N l:=aG fun x _=>C.dS0 J u N x
theorem V1.dR5(J:Env)(u:Nat->Value)(N:Bn)(x:V1):x.W7 { J with u:=u } N=x.W7 J N:=by
 cases x with
 | c x=>exact C.dS0 J u N x
 | agg l=>simp only[V1.W7,a54]
theorem BkOk.u{J:Env}{N:Bn}{w:World}{b:Bk}(h:BkOk J N w b)(u:Nat->Value):BkOk { J with u:=u } N w b:=by
 unfold BkOk at h ⊢;have lay:∀(ins:List Ins) (cs:List Value),aC2 { J with u:=u } cs ins=aC2 J cs ins:=by
  intro ins
  induction ins with
  | nil=>intro cs;rfl
  | cons x l ih=>intro cs;simp only[aC2,Sy.an8,ih]
 cases hs:b.str with
 | none=>
   rw[hs]at h;cases hx:b.x with
   | no=>rw[hx]at h;simp only[]at h ⊢;rw[a54];exact h
   | tab lv t=>rw[hx]at h;simp only[]at h ⊢;rw[Sy.an8];exact h
   | arr ins=>rw[hx]at h;simp only[]at h ⊢;rw[a54,lay];exact⟨h.1,fun x hx=>by rw[Sy.an8];exact h.2 x hx⟩
   | mp ks ag v t=>rw[hx]at h;simp only[]at h ⊢;rw[Sy.an8];exact h
   | own k t=>rw[hx]at h;simp only[]at h ⊢;rw[Sy.an8];exact h
   | al t=>rw[hx]at h;simp only[]at h ⊢;rw[Sy.an8,a54];exact h
 | some s=>rw[hs]at h;simp only[]at h ⊢;rw[an8];exact h
def an3(m:Nat)(l:List SV):Bool:=l.all fun x=>match x with
 | .any k=> !(Nat.beq k m)
 | _=>true
theorem Md.dI4{J:Env}{S:Nat->Prop}{w0:World}{N0:Bn}{n0:Nat}{s:St}{N:Bn}{a:Act}{w:World}(hM:Md J S w0 N0 n0 s N a w)(m:Nat)(v:Value)(h:an3 m s.tm=true):Md { J with u:=fun n=>if n=m then v else J.u n } S w0 N0 n0 s N a w:=by
 refine⟨?_,fun b hb=>(hM.hp b hb).u _,hM.ne,hM.may,⟨fun x hx=>?_,fun t ht=>?_⟩,hM.only,hM.old⟩
 .rw[hM.act];congr 2;apply aG;intro x hx;have:=av.1 h x hx;cases x with
  | one x=>exact(V1.dR5 J _ N x).symm
  | tup l=>
    simp only[SV.A1];congr 2;apply aG;intro x _;exact(V1.dR5 J _ N x).symm
  | any k=>
    show J.u k=if k=m then v else J.u k
    rw[if_neg (fun e=>by simp only[e,Nat.beq_refl,Bool.not_true]at this;cases this)]
 .have:=hM.cx.bs x hx;unfold Bd.ok at*;simp only[an8];exact this
 .rw[an8];exact hM.cx.pc t ht
def aF2(h:Nat):Tm->Bool
 | .iv n| .bv n| .sv n=>Nat.blt n h
 | .cv _=>true
 | .add x y| .sub x y| .mul x y| .dv x y| .md x y| .quo x y| .rem x y| .bop _ _ x y| .byte x y| .lt x y| .le x y| .eq x y| .and x y| .or x y| .seq x y| .bq x y| .app x y=>aF2 h x&&aF2 h y
 | .pw x| .wrap _ x| .len x| .not x| .chr x=>aF2 h x
 | .ap _ x y z| .ite x y z| .cut x y z| .tb _ x y z=>aF2 h x&&(aF2 h y&&aF2 h z)
 | .il _| .bl _| .sl _=>true
def z9(cs:List Value)(n:Nat):Int:=match cs[n]? with|some (.int _ z)=>z|_=>0
def Y5(cs:List Value)(n:Nat):Bool:=match cs[n]? with|some (.bool z)=>z|_=>false
def aB8(cs:List Value)(n:Nat):ByteArray:=match cs[n]? with|some (.string z)=>z|_=>K4
def Env.hi(J:Env)(h:Nat)(cs:List Value):Env where
 i:=fun n=>if n<h then J.i n else z9 cs (n - h)
 b:=fun n=>if n<h then J.b n else Y5 cs (n - h)
 s:=fun n=>if n<h then J.s n else aB8 cs (n - h)
 f:=J.f
 v:=J.v
 u:=J.u
 c:=J.c
 o:=J.o
theorem aJ9(J:Env)(h:Nat)(cs:List Value):∀ t:Tm,aF2 h t=true->u9 (J.hi h cs) t=u9 J t:=by
 intro t
 induction t with
 | iv n=>intro hl;simp only[u9,Env.hi,if_pos (aB1 hl)]
 | bv n=>intro hl;simp only[u9,Env.hi,if_pos (aB1 hl)]
 | sv n=>intro hl;simp only[u9,Env.hi,if_pos (aB1 hl)]
 | cv n=>intro _;rfl
 | tb o x y z hx hy hz=>
   intro hl;simp only[aF2,m5]at hl;simp only[u9,hx hl.1,hy hl.2.1,hz hl.2.2]
 | ap f x y z hx hy hz=>
   intro hl;simp only[aF2,m5]at hl;show(J.hi h cs).f f (u9 _ x) (u9 _ y) (u9 _ z)=_;rw[hx hl.1,hy hl.2.1,hz hl.2.2];rfl
 | ite x y z hx hy hz=>
   intro hl;simp only[aF2,m5]at hl;simp only[u9,hx hl.1,hy hl.2.1,hz hl.2.2]
 | cut x y z hx hy hz=>
   intro hl;simp only[aF2,m5]at hl;simp only[u9,hx hl.1,hy hl.2.1,hz hl.2.2]
 | pw x hx=>intro hl;simp only[u9,hx hl]
 | wrap k x hx=>intro hl;simp only[u9,hx hl]
 | len x hx=>intro hl;simp only[u9,hx hl]
 | not x hx=>intro hl;simp only[u9,hx hl]
 | chr x hx=>intro hl;simp only[u9,hx hl]
 | il n=>intro _;rfl
 | bl n=>intro _;rfl
 | sl n=>intro _;rfl
 | _=>
   rename_i hx hy;intro hl;simp only[aF2,m5]at hl;simp only[u9,hx hl.1,hy hl.2]
def cV5(h:Nat):C->Bool
 | .int _ t| .bool t| .str t=>aF2 h t
 | .slc _ _ a b=>aF2 h a&&aF2 h b
 | .slr _ a b c=>aF2 h a&&(aF2 h b&&aF2 h c)
 | .ptx _ a=>aF2 h a
 | .slt _ _ a b c=>aF2 h a&&(aF2 h b&&aF2 h c)
 | .pta _ _ _ a _=>aF2 h a
 | .ptv a=>aF2 h a
 | .vls a=>aF2 h a
 | .slz _ _ a=>aF2 h a
 | _=>true
theorem cI9{J:Env}{N:Bn}{h:Nat}{cs:List Value}{x:C}(hl:cV5 h x=true):x.G2 (J.hi h cs) N=x.G2 J N:=by
 cases x<;>simp only[cV5,m5]at hl<;>simp only[C.G2]<;>first
  | rfl
  | rw[aJ9 J h cs _ hl]
  | rw[aJ9 J h cs _ hl.1,aJ9 J h cs _ hl.2]
  | rw[aJ9 J h cs _ hl.1,aJ9 J h cs _ hl.2.1,aJ9 J h cs _ hl.2.2]
def cV4(h:Nat)(l:List C):Bool:=l.all (cV5 h)
theorem bB1{J:Env}{N:Bn}{h:Nat}{cs:List Value}{l:List C}(hl:cV4 h l=true):A5 (J.hi h cs) N l=A5 J N l:=aG fun x hx=>cI9 (av.1 hl x hx)
def dD9(h:Nat):V1->Bool
 | .c x=>cV5 h x
 | .agg l=>cV4 h l
theorem cI8{J:Env}{N:Bn}{h:Nat}{cs:List Value}{x:V1}(hl:dD9 h x=true):x.W7 (J.hi h cs) N=x.W7 J N:=by
 cases x with
 | c x=>exact cI9 hl
 | agg l=>simp only[V1.W7];rw[bB1 hl]
def dR1(h:Nat):SV->Bool
 | .one x=>dD9 h x
 | .tup l=>l.all (dD9 h)
 | .any _=>true
theorem dE1{J:Env}{N:Bn}{h:Nat}{cs:List Value}{x:SV}(hl:dR1 h x=true):x.A1 (J.hi h cs) N=x.A1 J N:=by
 cases x with
 | one x=>exact cI8 hl
 | tup l=>
   simp only[SV.A1];congr 2;apply aG;intro x hx;exact cI8 (av.1 hl x hx)
 | any n=>rfl
def bk1(h:Nat):Xt->Bool
 | .no=>true
 | .tab _ t=>aF2 h t
 | .arr ins=>ins.all fun x=>aF2 h x.t
 | .mp _ _ _ t=>aF2 h t
 | .own _ t=>aF2 h t
 | .al t=>aF2 h t
theorem cJ5{J:Env}{h:Nat}{vs:List Value}:∀{ins:List Ins},(ins.all fun x=>aF2 h x.t)=true->∀ cs,aC2 (J.hi h vs) cs ins=aC2 J cs ins
 | [],_,_=>rfl
 | x::l,hl,cs=>by
   simp only[List.all_cons,m5]at hl;simp only[aC2,aJ9 J h vs _ hl.1,cJ5 hl.2]
def bu1(h:Nat)(s:St):Bool:=s.tm.all (dR1 h)&&(s.hp.all (fun b=>cV4 h b.cs&&((match b.str with|some t=>aF2 h t|none=>true)&&bk1 h b.x))&&(s.cx.bs.all (fun b=>aF2 h b.t)&&s.cx.pc.all (aF2 h)))
theorem Md.hi{J:Env}{S:Nat->Prop}{w0:World}{N0:Bn}{n0:Nat}{s:St}{N:Bn}{a:Act}{w:World}(hM:Md J S w0 N0 n0 s N a w)(h:Nat)(cs:List Value)(hl:bu1 h s=true):Md (J.hi h cs) S w0 N0 n0 s N a w:=by
 unfold bu1 at hl;simp only[m5]at hl;obtain⟨h1,h2,h3,h4⟩:=hl;refine⟨?_,fun b hb=>?_,hM.ne,hM.may,⟨fun x hx=>?_,fun t ht=>?_⟩,hM.only,hM.old⟩
 .rw[hM.act];congr 2;exact aG fun x hx=>(dE1 (av.1 h1 x hx)).symm
 .have hb2:=av.1 h2 b hb;have hB:=hM.hp b hb;unfold BkOk at hB ⊢;cases hs:b.str with
  | none=>
    rw[hs]at hB hb2;simp only[m5,true_and]at hB hb2 ⊢;cases hx:b.x with
    | no=>
      rw[hx]at hB;simp only[]at hB ⊢;rw[bB1 hb2.1];exact hB
    | tab lv t=>
      rw[hx]at hB hb2;simp only[bk1]at hB hb2 ⊢;rw[aJ9 _ _ _ _ hb2.2];exact hB
    | arr ins=>
      rw[hx]at hB hb2;simp only[bk1]at hB hb2 ⊢;rw[bB1 hb2.1,cJ5 hb2.2];exact⟨hB.1,fun x hx=>by rw[aJ9 _ _ _ _ (av.1 hb2.2 x hx)];exact hB.2 x hx⟩
    | mp ks ag v t=>
      rw[hx]at hB hb2;simp only[bk1]at hB hb2 ⊢;rw[aJ9 _ _ _ _ hb2.2];exact hB
    | own k t=>
      rw[hx]at hB hb2;simp only[bk1]at hB hb2 ⊢;rw[aJ9 _ _ _ _ hb2.2];exact hB
    | al t=>
      rw[hx]at hB hb2;simp only[bk1]at hB hb2 ⊢;rw[bB1 hb2.1,aJ9 _ _ _ _ hb2.2];exact hB
  | some t=>
    rw[hs]at hB hb2;simp only[m5]at hB hb2 ⊢;rw[aJ9 _ _ _ _ hb2.2.1];exact hB
 .have:=hM.cx.bs x hx;unfold Bd.ok at*;rw[aJ9 _ _ _ _ (av.1 h3 x hx)];exact this
 .rw[aJ9 _ _ _ _ (av.1 h4 t ht)];exact hM.cx.pc t ht
def bu3(h:Nat):Nat->List Leaf->List C
 | _,[]=>[]
 | j,x::l=>(match x with
   | some (some k)=> .int k (.iv (h+j))
   | some none=> .bool (.bv (h+j))
   | none=> .str (.sv (h+j)))::bu3 h (j+1) l
theorem ap6{J:Env}{N:Bn}{h:Nat}{cs:List Value}:∀{l:List Leaf} {j:Nat} {ds:List Value},T5 l ds->(∀ i x,ds[i]? =some x->cs[j+i]? =some x)->A5 (J.hi h cs) N (bu3 h j l)=ds
 | [],_,[],_,_=>rfl
 | x::l,j,d::ds,hl,hat=>by
   have h0:=hat 0 d rfl;rw[Nat.add_zero]at h0;have ih:=ap6 (J:=J) (N:=N) (h:=h) (l:=l) (j:=j+1) (ds:=ds) hl.2 (fun i x hx=>by
    have:=hat (i+1) x (by simpa using hx);rwa[show j+1+i=j+(i+1)from by omega])
   show _::A5 (J.hi h cs) N (bu3 h (j+1) l)=_;rw[ih];congr 1;rcases x with _|_|k
   .obtain⟨z,rfl,_⟩:=hl.1;show Value.string (if h+j<h then J.s (h+j)else aB8 cs (h+j - h))=_;rw[if_neg U,show h+j - h=j from by omega];unfold aB8;rw[h0]
   .obtain⟨z,rfl⟩:=hl.1;show Value.bool (if h+j<h then J.b (h+j)else Y5 cs (h+j - h))=_;rw[if_neg U,show h+j - h=j from by omega];unfold Y5;rw[h0]
   .obtain⟨z,rfl,_⟩:=hl.1;show Value.int k (if h+j<h then J.i (h+j)else z9 cs (h+j - h))=_;rw[if_neg U,show h+j - h=j from by omega];unfold z9;rw[h0]
 | [],_,_::_,hl,_=>hl.elim
 | _::_,_,[],hl,_=>hl.elim
def okP:List Nat->Code->Bool
 | [],_=>true
 | 0::p, .seq a _=>okP p a
 | 1::p, .seq _ b=>okP p b
 | 2::p, .block _ a=>okP p a
 | 2::p, .scope a=>okP p a
 | _,_=>false
theorem aa2{P:Program}{sp:List Spec}{S:Nat->Prop}{w0:World}{N0:Bn}{lim fuel n0:Nat}{p:List Nat}{c:Code}{s T:St}{r:Rs}(hr:r=R6 P sp lim fuel n0 (.code (pre p c)) s){ys:List Sh}(hrun:shR n0 (some T) r=some ys){Q:Exit->Act->World->Prop}
 (I:Env->Prop) (hcx:∀ J,I J->T.cx.ok J) {J:Env} (hg:J.R8) (hsp:∀ q∈sp,q.Ok P J) (hd:aC6 (Sh.ax5 r ⟨J,S,w0,N0,n0⟩ (bl5 P p c Q) fun l N=>∀ u,I { J.L5 N l with u:=u }) ys)
 (next:∀ J',I J'->∀ N a w,Md J' S w0 N0 n0 T N a w->(I9 p c).wp P (Y7 P p c Q) a w) {N:Bn} {a:Act} {w:World} (hM:Md J S w0 N0 n0 s N a w):c.wp P Q a w:=by
 obtain⟨l,hl,hok⟩:=a45 (B:=⟨J,S,w0,N0,n0⟩) (Q:=bl5 P p c Q) (again:=fun l N=>∀ u,I { J.L5 N l with u:=u }) (by
  intro T' hT l s hm N a w hM h;injection hT with hT;subst hT;have h1:=h (J.L5 N l).u;rw[<-a43]at h1;exact next _ h1 _ _ _ (Sy.Md.bM3 hM hm (hcx _ h1))) hrun hd
 exact b51 (B:=⟨J,S,w0,N0,n0⟩) hg hsp rfl p c Q fuel s l (hr.symm.trans hl) hok N a w hM
structure RowOps(id:Nat)(c:Code)(tS tE:TypeId)(x i d1 d2 d3:Tmp):Prop where
 c:∃ o1 o2 o3 o4:Oper,c= .region id #[o1,o2,o3,o4] false/\(o1.op= .indexAddr tS (.tmp x) (.tmp i)/\o1.dst=some d1/\o1.guard=none)/\(o2.op= .load tE (.tmp d1)/\o2.dst=some d2/\o2.guard=none)/\
  (o3.op= .alloc tE/\o3.dst=some d3/\o3.guard=none)/\(o4.op= .store tE (.tmp d3) (.tmp d2)/\o4.dst=none/\o4.guard=none)
def cT5(s:St)(m:Nat)(d1:Tmp):St:=s.put (some d1) (.any m)
def a15(s:St)(cs:List C)(m:Nat)(d1 d2:Tmp):St:=(cT5 s m d1).put (some d2) (.one (.agg cs))
def dQ8(s:St)(n:Nat)(tE:TypeId)(cs:List C)(m:Nat)(d1 d2 d3:Tmp):St:=(((a15 s cs m d1 d2).new n tE cs).put (some d3) (.one (.c (.ptr n 0)))).put none aE3
theorem aA3{P:Program}{all:Array Oper}{rest:List Oper}{o:Oper}{a:Act}{w w':World}{Q:Exit->Act->World->Prop}{v:Value}(hg:o.guard=none)(hrun:(execOp a.eval o).run P w= .ok (.value v) w')(h:wpList P all Q rest (a.put o.dst v) w'):wpList P all Q (o::rest) a w:=
 wpList_plain hg fun _ hK=>aW1 hrun (hK _ _ h)
theorem co4{P:Program}{J:Env}(hJ:J.R8){S:Nat->Prop}{w0:World}{N0:Bn}{n0:Nat}{s:St}{N:Bn}{a:Act}{w:World}(hM:Md J S w0 N0 n0 s N a w){id:Nat}{c:Code}{tS tE:TypeId}{x i d1 d2 d3:Tmp}(ho:RowOps id c tS tE x i d1 d2 d3)
 {b off len cap k:Nat} {vx vi:SV} (hx:s.tm[x]? =some vx) (hx':vx.A1 J N= .slice (some ⟨b,off,none⟩) len cap) (hi:s.tm[i]? =some vi) (hi':vi.A1 J N= .int .i64 (k:Int)) (hk:k<len)
 {m n:Nat} {cs:List C} (hu:J.u m= .pointer (some ⟨b,off+k*cs.length,none⟩)) (hr:w.rangeAt b (off+k*cs.length) (A5 J N cs)) {d:TypeDesc} (hus:P.underlying tS=some (.slice tE)) (hue:P.underlying tE=some d) (hd:d.isRow=true) (hinf:(P.info? tE).map (·.size)=some cs.length)
 {zs:List C} (hz:ae4 P tE=some zs) (hzl:zs.length=cs.length) (hn:n0<=n) (hf:(a15 s cs m d1 d2).T8 n=true) (hc:bB7 n cs=false)
 (e1:(cT5 s m d1).tm[d1]? =some (.any m)) (e2:(a15 s cs m d1 d2).tm[d2]? =some (.one (.agg cs))) (e3:(((a15 s cs m d1 d2).new n tE cs).put (some d3) (.one (.c (.ptr n 0)))).tm[d3]? =some (.one (.c (.ptr n 0)))) (e4:(((a15 s cs m d1 d2).new n tE cs).put (some d3) (.one (.c (.ptr n 0)))).tm[d2]? =some (.one (.agg cs)))
 {Q:Exit->Act->World->Prop} (h:∀ N a w,Md J S w0 N0 n0 (dQ8 s n tE cs m d1 d2 d3) N a w->Q .normal a w):c.wp P Q a w:=by
 obtain⟨o1,o2,o3,o4,rfl,⟨p1,t1,g1⟩,⟨p2,t2,g2⟩,⟨p3,t3,g3⟩,⟨p4,t4,g4⟩⟩:=ho.c;refine wp_region_list ?_;show wpList P _ Q [o1,o2,o3,o4] a w;have hE:P.elem tS=tE:=by simp[Program.elem,hus]
 have hlen:(A5 J N cs).length=cs.length:=by simp[A5]
 have M1:Md J S w0 N0 n0 (cT5 s m d1) N (a.put (some d1) (.pointer (some ⟨b,off+k*cs.length,none⟩))) w:=by
  have:=Sy.Md.put hM (some d1) (.any m);rwa[show(SV.any m).A1 J N=J.u m from rfl,hu]at this
 have M2:Md J S w0 N0 n0 (a15 s cs m d1 d2) N ((a.put (some d1) (.pointer (some ⟨b,off+k*cs.length,none⟩))).put (some d2) (.agg (A5 J N cs).toArray)) w:=Sy.Md.put M1 (some d2) (.one (.agg cs));have M3:=Sy.Md.put (Sy.Md.new M2 n hn hf tE cs hc) (some d3) (.one (.c (.ptr n 0)));have hp3:(SV.one (.c (.ptr n 0))).A1 J (E8 N n w.heap.size)= .pointer (some ⟨w.heap.size,0,none⟩):=by
  show Value.pointer (some ⟨E8 N n w.heap.size n,0,none⟩)=_;rw[K7]
 rw[hp3]at M3;have M4:=Sy.Md.put M3 none aE3;obtain⟨ii,hii,his⟩:∃ ii,P.info? tE=some ii/\ii.size=cs.length:=by
  cases hq:P.info? tE with
  | none=>rw[hq]at hinf;cases hinf
  | some ii=>rw[hq]at hinf;injection hinf with hinf;exact⟨ii,rfl,hinf⟩
 refine aA3 (v:= .pointer (some ⟨b,off+k*cs.length,none⟩)) (w':=w) g1 ?_ ?_
 .have hx2:a.eval (.tmp x)= .slice (some ⟨b,off,none⟩) len cap:=(Sy.Md.opd hM (x:= .tmp x) hx).trans hx';have hi2:a.eval (.tmp i)= .int .i64 (k:Int):=(Sy.Md.opd hM (x:= .tmp i) hi).trans hi';unfold execOp;simp only[p1,hx2,hi2,am];rw[run_indexAt_slice w tS _ _ _ .i64 (k:Int) (by rw[hE];exact hus),hE,if_pos ⟨by omega,by omega⟩];simp only[sizeOf,typeInfo,am,run_program,ai,hii,aq,his,aK,Addr.add_mid]
 rw[t1];refine wpList_load_mid g2 tE (.tmp d1) p2 b (off+k*cs.length) (Sy.Md.opd M1 (x:= .tmp d1) e1 |>.trans hu) (A5 J N cs) d hr hue hd (by rw[hlen];exact hinf) ?_
 rw[t2];refine aA3 (v:= .pointer (some ⟨w.heap.size,0,none⟩)) (w':=w.alloc (.cells (A5 J N zs).toArray tE)) g3 ?_ ?_
 .unfold execOp;simp only[p3];simp only[am,b16 (J:=J) (N:=N) hz w,ai,aq]
 rw[t3];refine bO2 g4 tE (.tmp d3) (.tmp d2) p4 (A5 J N zs) (A5 J N cs) ?_ ?_ (by simp[A5,hzl]) (by rw[hlen];exact hinf) (al8 hJ N cs) ?_
 .exact(Sy.Md.opd M3 (x:= .tmp d3) e3).trans hp3
 .refine(Sy.Md.opd M3 (x:= .tmp d2) e4).trans ?_;show Value.agg (A5 J (E8 N n w.heap.size) cs).toArray=_;rw[aA2 J hc]
 rw[t4];exact wpList_nil (h _ _ _ M4)
section
variable(J:Env)(x y z a:Tm)(n f:Nat)(k:Kd)
theorem dG9:(u9 J (.cv n)).c=J.c n:=rfl
theorem eU0:(u9 J (.tb (.get k f) x y z)).i=(aF3 k (((u9 J x).c.getD (u9 J y).i.toNat []).getD f (.bool false))).i:=rfl
theorem aD5:(u9 J (.ite x y z)).i=if(u9 J x).b=true then(u9 J y).i else(u9 J z).i:=by
 show(if(u9 J x).b=true then u9 J y else u9 J z).i=_;split<;>rfl
theorem cW1:(u9 J (.ite (.lt x y) x y)).i=min (u9 J x).i (u9 J y).i:=by
 rw[aD5];by_cases h:(u9 J x).i<(u9 J y).i
 .rw[if_pos (by rw[A7];exact h)];omega
 .rw[if_neg (by rw[A7];exact h)];omega
theorem bu5:(u9 J (.ite (.lt x y) y x)).i=max (u9 J x).i (u9 J y).i:=by
 rw[aD5];by_cases h:(u9 J x).i<(u9 J y).i
 .rw[if_pos (by rw[A7];exact h)];omega
 .rw[if_neg (by rw[A7];exact h)];omega
end
theorem bi9{lv:List Kd}:∀{a b:List (List Value)},(∀ r∈a,S1 lv r)->(∀ r∈b,S1 lv r)->(sqT a b=true↔a=b)
 | [],[],_,_=>by simp[sqT]
 | r::a,q::b,ha,hb=>by
   simp only[sqT,m5,a44 (ha r (ae ..)) (hb q (ae ..)),bi9 (fun x hx=>ha x (aj _ hx)) (fun x hx=>hb x (aj _ hx)),List.cons.injEq]
 | [],_::_,_,_=>by simp[sqT]
 | _::_,[],_,_=>by simp[sqT]
theorem dF2{k:Kd}{v u:Value}(hv:kOK k v)(hu:kOK k u)(h:KEq k (aF3 k v) (aF3 k u)):v=u:=by
 cases k with
 | int k=>
   obtain⟨m,rfl,hm⟩:=hv;obtain⟨n,rfl,hn⟩:=hu;obtain⟨m1,m2⟩:=aK2 hm;obtain⟨n1,n2⟩:=aK2 hn;change k.wrap m=k.wrap n at h;rw[aU9 m1 m2,aU9 n1 n2]at h;rw[h]
 | bool=>
   obtain⟨m,rfl⟩:=hv;obtain⟨n,rfl⟩:=hu;change m=n at h;rw[h]
 | str=>
   obtain⟨m,rfl,hm⟩:=hv;obtain⟨n,rfl,hn⟩:=hu;change(if m.size<=9223372036854775807 then m else K4)=(if n.size<=9223372036854775807 then n else K4)at h;rw[if_pos (show m.size<=9223372036854775807 from hm),if_pos (show n.size<=9223372036854775807 from hn)]at h;rw[h]
 | ptr=>
   obtain⟨m,rfl⟩:=hv;obtain⟨n,rfl⟩:=hu;change((m:Nat):Int)=((n:Nat):Int)at h;rw[Int.ofNat.inj h]
 | sls=>
   obtain⟨a,n,c,rfl⟩:=hv;obtain⟨b,m,d,rfl⟩:=hu;exact h
def az6(lv:List Kd)(r q:List Value)(f:Nat):Prop:=
 match lv with
 | []=>True
 | k::lv=>KEq k (aF3 k (r.getD f (.bool false))) (aF3 k (q.getD f (.bool false)))/\az6 lv r q (f+1)
theorem cH8:∀{lv:List Kd} {r q:List Value} {f:Nat},S1 lv (r.drop f)->S1 lv (q.drop f)->az6 lv r q f->r.drop f=q.drop f
 | [],r,q,f,hr,hq,_=>by
   have h1:=aA7 hr;have h2:=aA7 hq;rw[ay h1,ay h2]
 | k::lv,r,q,f,hr,hq,h=>by
   have l1:=aA7 hr;have l2:=aA7 hq;rw[bo,List.length_cons]at l1 l2;have hf1:f<r.length:=by omega
   have hf2:f<q.length:=by omega
   rw[List.drop_eq_getElem_cons hf1]at hr ⊢;rw[List.drop_eq_getElem_cons hf2]at hq ⊢;have h0:=h.1;rw[show r.getD f (.bool false)=r[f]from by rw[List.getD,ar hf1];rfl,show q.getD f (.bool false)=q[f]from by rw[List.getD,ar hf2];rfl]at h0;rw[dF2 hr.1 hq.1 h0,cH8 hr.2 hq.2 h.2]
def dp7(l:List Oper):List Nat:=l.filterMap fun o=>o.dst
def ap9:Code->List Nat
 | .region _ ops _=>dp7 ops.toList
 | .seq a b=>ap9 a++ap9 b
 | .cond _ a b=>ap9 a++ap9 b
 | .block _ a=>ap9 a
 | .loop a=>ap9 a
 | .scope a=>ap9 a
 | _=>[]
def cR8(n:Nat):List (Nat × SV)->Option SV
 | []=>none
 | (m,v)::l=>if Nat.beq m n then some v else cR8 n l
def eF4(ds:List Nat)(vs:List (Nat × SV)):Nat->List SV->List SV
 | _,[]=>[]
 | n,x::l=>(match cR8 n vs with
   | some v=>v
   | none=>if ds.any (fun d=>Nat.beq d n)then .any n else x)::eF4 ds vs (n+1) l
def b44(hp:List Bk):List Bk:=hp.filter (fun b=> !b.L4)++hp.filter Bk.L4
def b18(s:St)(c:Code)(vs:List (Nat × SV))(hp:List Bk)(cx:Cx)(nx:Nat):St:=⟨eF4 (ap9 c) vs 0 s.tm,b44 (s.hp.map (fun b=>match aD0 b.l hp with
 | some b'=>b'
 | none=>b)),cx,nx⟩
def cU4(n m:Nat):SV->SV
 | .one (.c .nslc)=> .one (.c (.slt n m i9 i9 i9))
 | x=>x
def au3(s:St)(d n:Nat)(ty:TypeId)(lv:List Kd):St:= { s with tm:=s.tm.set d (cU4 n lv.length (s.tm.getD d aE3)),hp:=ae5 ⟨n,ty,[],true,none, .tab lv tn⟩ s.hp }
section
variable{J:Env}{S:Nat->Prop}{w0:World}{N0:Bn}{n0:Nat}{s:St}{N:Bn}{a:Act}{w:World}
theorem Md.ax7(hM:Md J S w0 N0 n0 s N a w)(n g c:Nat)(hn:n0<=n)(hf:s.T8 n=true)(hf1:s.T8 (n+1)=true):Md J S w0 N0 n0 s (E8 (E8 N n g) (n+1) c) a w:=by
 unfold St.T8 at hf hf1;simp only[m5,av,aN]at hf hf1;have hl:∀ b∈s.hp,E8 (E8 N n g) (n+1) c b.l=N b.l/\E8 (E8 N n g) (n+1) c (b.l+1)=N (b.l+1)/\A5 J (E8 (E8 N n g) (n+1) c) b.cs=A5 J N b.cs:=fun b hb=>by
  have g1:=hf.2 b hb;have g2:=hf1.2 b hb;exact⟨by rw[B3 (T3 g2.1),B3 (T3 g1.1)],by rw[B3 (T3 g2.2.2),B3 (T3 g1.2.2)],(aA2 J g2.2.1).trans (aA2 J g1.2.1)⟩
 have hreal:∀ b∈s.hp,b.G0 (E8 (E8 N n g) (n+1) c)->b.G0 N:=fun b hb hr=>hr.imp id fun h=>by rw[<-(hl b hb).2.1];exact h
 refine⟨?_,fun b hb=>(hM.hp b hb).at7 (hl b hb).1 (fun _=>(hl b hb).2.1) (hl b hb).2.2,fun x hx y hy hne hrx hry=>?_,fun b hb hw hr=>?_,hM.cx,hM.only,fun k hk=>?_⟩
 .rw[hM.act];congr 2;apply aG;intro x hx;rw[SV.aY5 J (by simpa using hf1.1 x hx),SV.aY5 J (by simpa using hf.1 x hx)]
 .exact(hM.ne x hx y hy hne (hreal x hx hrx) (hreal y hy hry)).bM1 (hl x hx).1 (hl x hx).2.2 (hl y hy).1 (hl y hy).2.2
 .exact fun g hg=>hM.may b hb hw (hreal b hb hr) g ((Z9 (hl b hb).1 (hl b hb).2.2 g).1 hg)
 .rw[B3 U,B3 U];exact hM.old k hk
theorem Md.cs2(hM:Md J S w0 N0 n0 s N a w)(n:Nat)(ty:TypeId)(lv:List Kd)(h0:N (n+1)=0):Md J S w0 N0 n0 { s with hp:=ae5 ⟨n,ty,[],true,none, .tab lv tn⟩ s.hp } N a w:=by
 have hnot:¬Bk.G0 N ⟨n,ty,[],true,none, .tab lv tn⟩:=fun hr=>by
  rcases hr with hr|hr
  .cases hr
  .exact hr h0
 refine⟨hM.act,fun b hb=>?_,fun x hx y hy hne hrx hry=>?_,fun b hb hw hr=>?_,hM.cx,hM.only,hM.old⟩
 .rcases aI7 hb with rfl|hb
  .show RowT w (N n) (N (n+1)) ty lv [];rw[h0];exact RowT.bC7 ..
  .exact hM.hp b hb
 .rcases aI7 hx with rfl|hx
  .exact absurd hrx hnot
  rcases aI7 hy with rfl|hy
  .exact absurd hry hnot
  exact hM.ne x hx y hy hne hrx hry
 .rcases aI7 hb with rfl|hb
  .exact absurd hr hnot
  .exact hM.may b hb hw hr
theorem dC8{n m:Nat}(h0:N (n+1)=0)(x:SV):(cU4 n m x).A1 J N=x.A1 J N:=by
 unfold cU4;split
 .show(if N (n+1)=0 then _ else _)=_;rw[if_pos h0];rfl
 .rfl
theorem bG0{α γ:Type}(f:α->γ)(d:α)(l:List α)(i:Nat)(x:α)(h:f x=f (l.getD i d)):(l.set i x).map f=l.map f:=by
 rw[List.map_set];apply List.ext_getElem?;intro j;by_cases hj:i=j
 .subst hj;by_cases hi:i<l.length
  .rw[List.getElem?_set_self bQ,bn,ar hi,h,List.getD,ar hi];rfl
  .rw[List.getElem?_eq_none bQ,List.getElem?_eq_none bQ]
 .rw[List.getElem?_set_ne hj]
theorem Md.bl6(hM:Md J S w0 N0 n0 s N a w)(d n:Nat)(ty:TypeId)(lv:List Kd)(hn:n0<=n)(hf:s.T8 n=true)(hf1:s.T8 (n+1)=true):∃ N',Md J S w0 N0 n0 (au3 s d n ty lv) N' a w:=by
 have h0:E8 (E8 N n 0) (n+1) 0 (n+1)=0:=K7 ..;have h1:=Sy.Md.cs2 (Sy.Md.ax7 hM n 0 0 hn hf hf1) n ty lv h0;refine⟨_,⟨?_,h1.hp,h1.ne,h1.may,h1.cx,h1.only,h1.old⟩⟩;rw[h1.act];show(⟨_,[]⟩:Act)=⟨((s.tm.set d (cU4 n lv.length (s.tm.getD d aE3))).map (SV.A1 J (E8 (E8 N n 0) (n+1) 0))).toArray,[]⟩;rw[bG0 (SV.A1 J (E8 (E8 N n 0) (n+1) 0)) aE3 s.tm d _ (dC8 h0 _)]
end
def bu6(x y i:Tm)(k:Kd)(f:Nat):Tm:=
 match k with
 | .bool=> .bq (aS0 .bool f x i) (aS0 .bool f y i)
 | .str=> .seq (aS0 .str f x i) (aS0 .str f y i)
 | .int k=> .eq (aS0 (.int k) f x i) (aS0 (.int k) f y i)
 | .ptr=> .eq (aS0 .ptr f x i) (aS0 .ptr f y i)
 | .sls=> .tb .eq (aS0 .sls f x i) (aS0 .sls f y i) i9
def al2(x y i:Tm):List Kd->Nat->Tm
 | [],_=> .bl true
 | k::l,f=>match l with
   | []=>bu6 x y i k f
   | _::_=> .and (bu6 x y i k f) (al2 x y i l (f+1))
theorem cr2{s t:ByteArray}:(s.toList==t.toList)=true↔s=t:=by
 rw[beq_iff_eq];constructor
 .intro h;rw[ByteArray.toList_eq s,ByteArray.toList_eq t]at h;exact bq0 h
 .intro h;rw[h]
theorem b73(J:Env)(x y i:Tm)(k:Kd)(f:Nat):(u9 J (bu6 x y i k f)).b=true↔KEq k (aF3 k (((u9 J x).c.getD (u9 J i).i.toNat []).getD f (.bool false))) (aF3 k (((u9 J y).c.getD (u9 J i).i.toNat []).getD f (.bool false))):=by
 cases k with
 | bool=>exact beq_iff_eq
 | str=>exact cr2
 | int k=>exact beq_iff_eq
 | ptr=>exact beq_iff_eq
 | sls=>
   show sqT [[slV _]] [[slV _]]=true↔slV (slV _)=slV (slV _);rw[bK7,bK7];simp only[sqT,sqR,Bool.and_true];exact cH6 (bj0 _) (bj0 _)
theorem ba6(J:Env)(x y i:Tm):∀(lv:List Kd) (f:Nat),(u9 J (al2 x y i lv f)).b=true↔az6 lv ((u9 J x).c.getD (u9 J i).i.toNat []) ((u9 J y).c.getD (u9 J i).i.toNat []) f
 | [],f=>by simp[al2,az6];rfl
 | [k],f=>by
   simp only[al2,az6,and_true];exact b73 J x y i k f
 | k::k'::l,f=>by
   have ih:=ba6 J x y i (k'::l) (f+1);show(u9 J (.and (bu6 x y i k f) (al2 x y i (k'::l) (f+1)))).b=true↔_/\az6 (k'::l) _ _ (f+1);rw[F4,b73,ih]
theorem cT3(lv:List Kd)(r:List Value):∀ f,az6 lv r r f:=by
 induction lv with
 | nil=>intro f;trivial
 | cons k lv ih=>intro f;exact⟨KEq.dI5 _ _,ih _⟩
def eI3(ty:TypeId)(lv:List Kd):List Bk:=[⟨0,ty,[],false,none, .tab lv j8⟩,⟨2,ty,[],false,none, .tab lv j5⟩]
def cW7:List Bd:=[⟨L7 j8,0,140737488355328⟩,⟨L7 j5,0,140737488355328⟩]
def dF8(ty:TypeId)(lv:List Kd):Sy.St:=⟨[],eI3 ty lv,⟨cW7,[]⟩,4⟩
def eqA(lv:List Kd):List SV:=[.one (.c (.slt 0 lv.length i9 (L7 j8) i9)), .one (.c (.slt 2 lv.length i9 (L7 j5) i9))]
def eqP:List Nat:=[1,1,0,1,2]
def b80(P:Program)(fn:Func)(ty:TypeId)(lv:List Kd):Rs:=R6 P [] 10 400 4 (.code (pre eqP (y7 fn))) (L3 fn (eqA lv) (dF8 ty lv))
def b78(P:Program)(fn:Func)(ty:TypeId)(lv:List Kd):Sy.St:=b18 (I1 (b80 P fn ty lv) 1) (Y9 (Sy.I9 eqP (y7 fn))) [(14, .one (.c (.int .i64 j9)))] [] ⟨⟨.iv 0,0,140737488355328⟩::cW7,[]⟩ 30
def cW5(P:Program)(fn:Func)(ty:TypeId)(lv:List Kd):Rs:=R6 P [] 10 400 4 (.code (Y9 (Sy.I9 eqP (y7 fn)))) (b78 P fn ty lv)
structure EqRuns(P:Program)(f:FuncId)(fn:Func)(ty:TypeId)(lv:List Kd)(q:Tm:=al2 (.cv 0) (.cv 1) (.iv 0) lv 0):Prop where
 row:∀ J,(u9 J q).b=(u9 J (al2 j8 j5 j9 lv 0)).b
 hf:P.funcs[f]? =some fn
 body:fn.body.isSome=true
 run0:shR 4 none (b80 P fn ty lv)=some [.out 0 .ret [.not (.eq (L7 j8) (L7 j5))], .out 1 .normal [.eq (L7 j8) (L7 j5)]]
 ret0:aD7 P (I1 (b80 P fn ty lv) 0) fn.results.toList=some qal 
 match_:(aA1 4 (b78 P fn ty lv) (I1 (b80 P fn ty lv) 1)).map noU=some [.i 0 i9]
 loop:Code.loop (Y9 (Sy.I9 eqP (y7 fn)))=Sy.I9 eqP (y7 fn)
 run1:shR 4 (some (b78 P fn ty lv)) (cW5 P fn ty lv)=some [.must (.lt j9 (L7 j5)) [.lt j9 (L7 j8)], .must (.lt j9 (L7 j5)) [.lt j9 (L7 j5), .lt j9 (L7 j8)],
  .out 2 .ret [.not q, .lt j9 (L7 j5), .lt j9 (L7 j5), .lt j9 (L7 j8)],
  .back [.i 0 (.add j9 l9)] [q, .lt j9 (L7 j5), .lt j9 (L7 j5), .lt j9 (L7 j8)],
  .out 4 (.exit 0) [.not (.lt j9 (L7 j8))]]
 cx1:(b78 P fn ty lv).cx=⟨⟨.iv 0,0,140737488355328⟩::cW7,[]⟩
 ret1:aD7 P (I1 (cW5 P fn ty lv) 2) fn.results.toList=some qal 
 fin:smR P fn 4 (R6 P [] 10 400 4 (.code (aft (.exit 0) eqP (y7 fn))) (I1 (cW5 P fn ty lv) 4))=some [.ret qaa (eI3 ty lv) [.not (.lt j9 (L7 j8))]]
structure EqI(a b:List (List Value))(J:Env):Prop where
 g:J.R8
 ha:J.c 0=a
 hb:J.c 1=b
 i0:0<=J.i 0
 i1:J.i 0<=(a.length:Int)
 eq:∀ j,j<(J.i 0).toNat->a.getD j []=b.getD j []
theorem br3{a b:List (List Value)}(hl:a.length=b.length)(h:∀ j,j<a.length->a.getD j []=b.getD j []):a=b:=by
 apply List.ext_getElem hl;intro j h1 h2;have:=h j h1;rwa[List.getD,List.getD,ar h1,ar h2]at this
theorem dF7{P:Program}{f:FuncId}{fn:Func}{ty:TypeId}{lv:List Kd}{q:Tm}(E:EqRuns P f fn ty lv q){w:World}{ga ca gb cb:Nat}{a b:List (List Value)}(ha:RowT w ga ca ty lv a)(hb:RowT w gb cb ty lv b)
 (hla:a.length<=140737488355328) (hlb:b.length<=140737488355328) (hne:ca≠0->cb≠0->ga≠gb):
 Calls P f #[aC9 ga ca a.length,aC9 gb cb b.length] w fun e w'=>e= .returned (.bool (sqT a b))/\Below w.heap.size w w':=by
 let J0:Env:= { U9 [] [] [] []with c:=fun n=>if n=0 then a else b }
 let N0:Bn:=fun l=>if l=0 then ga else if l=1 then ca else if l=2 then gb else cb
 have hbs:∀ J:Env,J.c 0=a->J.c 1=b->X5 J cW7:=fun J h0 h1 x hx=>by
  change x∈[_,_]at hx;simp only[aa,aY,or_false]at hx;rcases hx with rfl|rfl
  .show(0:Int)<=(((J.c 0).length:Nat):Int)/\(((J.c 0).length:Nat):Int)<=140737488355328;rw[h0];omega
  .show(0:Int)<=(((J.c 1).length:Nat):Int)/\(((J.c 1).length:Nat):Int)<=140737488355328;rw[h1];omega
 have hM0:Md J0 (fun _=>False) w N0 4 (dF8 ty lv) N0 ⟨#[],[]⟩ w:=by
  refine⟨rfl,fun x hx=>?_,fun x hx y hy hxy hrx hry=>?_,fun x hx hw _=>?_,⟨hbs J0 rfl rfl,fun t ht=>by cases ht⟩,Only.aF4 _ _,fun _ _=>rfl⟩
  .change x∈[_,_]at hx;simp only[aa,aY,or_false]at hx;rcases hx with rfl|rfl
   .exact ha
   .exact hb
  .change x∈[_,_]at hx;change y∈[_,_]at hy;simp only[aa,aY,or_false]at hx hy;rcases hx with rfl|rfl<;>rcases hy with rfl|rfl
   .exact absurd rfl hxy
   .exact apart.of rfl rfl (hne (hrx.resolve_left cl) (hry.resolve_left cl))
   .exact apart.of rfl rfl (hne (hry.resolve_left cl) (hrx.resolve_left cl)).symm
   .exact absurd rfl hxy
  .change x∈[_,_]at hx;simp only[aa,aY,or_false]at hx;rcases hx with rfl|rfl<;>cases hw
 have hg0:J0.R8:=fun i=>rfl
 have hargs:(#[aC9 ga ca a.length,aC9 gb cb b.length]:Array Value)=((eqA lv).map (SV.A1 J0 N0)).toArray:=by
  show _=(#[aK5 ga ca lv.length 0 a.length 0,aK5 gb cb lv.length 0 b.length 0]:Array Value);rw[aD2,aD2]
 refine(aH2 (B:=⟨J0,fun _=>False,w,N0,4⟩) (sp:=[]) (p:=eqP) (xs:=eqA lv) (s:=dF8 ty lv) (r:=b80 P fn ty lv) hg0 (fun q hq=>by cases hq) rfl E.hf E.body rfl E.run0 hM0 (R:=fun v w'=>v= .bool (sqT a b)/\Below w.heap.size w w') ?_ hargs).mono (fun e w' h=>by
  obtain⟨v,rfl,rfl,hb⟩:=h;exact⟨rfl,hb⟩)
 have no:a≠b->sqT a b=false:=fun h=>by
  cases hq:sqT a b with
  | false=>rfl
  | true=>exact absurd ((bi9 ha.ok hb.ok).1 hq) h
 refine⟨?_,?_,trivial⟩
 .intro hpc N ac w' hM;refine aL9 (B:=⟨J0,fun _=>False,w,N0,4⟩) hM E.ret0 ⟨?_,Sy.Only.R9 hM.only⟩;have hne:¬((a.length:Int)=(b.length:Int)):=by
   have:=hpc.1;rw[y9,A9]at this;exact this
  rw[no (fun h=>hne (by rw[h]))];rfl
 .intro hpc N ac w' hM;have hl:(a.length:Int)=(b.length:Int):=by
   have:=hpc.1;rw[A9]at this;exact this
  have hl:a.length=b.length:=Int.ofNat.inj hl;show(Sy.I9 eqP (y7 fn)).wp P (Y7 P eqP (y7 fn) _) ac w';rw[<-E.loop];have hcx:∀ J,EqI a b J->(b78 P fn ty lv).cx.ok J:=fun J h=>by
   rw[E.cx1];refine⟨fun x hx=>?_,fun t ht=>by cases ht⟩;rcases aa.1 hx with rfl|hx
   .have h0:=h.i0;have h1:=h.i1;show(0:Int)<=J.i 0/\J.i 0<=140737488355328;omega
   .exact hbs J h.ha h.hb x hx
  have hI1:∀ u,EqI a b { J0.L5 N [.i 0 i9]with u:=u }:=fun u=>⟨fun i=>rfl,rfl,rfl,aF 0,show(0:Int)<=_ by omega,fun j hj=>absurd hj (by show ¬j<(0:Int).toNat;omega)⟩
  obtain⟨u,N',hM2⟩:=Sy.Md.aL7 hM E.match_ fun u=>hcx _ (hI1 u)
  refine aK0 (w0:=w) (r:=cW5 P fn ty lv) rfl E.run1 (EqI a b) (fun J=>(a.length - (J.i 0).toNat)) (fun J hI=>hI.g) (fun J hI q hq=>by cases hq) hcx ?_ (hI1 u) hM2;intro J hI;have hi0:=hI.i0;have hi1:=hI.i1;have e0:((u9 J (.lt j9 (L7 j8))).b=true)=(J.i 0<(a.length:Int)):=by rw[A7];show(J.i 0<(((J.c 0).length:Nat):Int))=_;rw[hI.ha]
  have e1:((u9 J (.lt j9 (L7 j5))).b=true)=(J.i 0<(b.length:Int)):=by rw[A7];show(J.i 0<(((J.c 1).length:Nat):Int))=_;rw[hI.hb]
  have rows:J.i 0<(a.length:Int)->(((u9 J q).b=true)↔a.getD (J.i 0).toNat []=b.getD (J.i 0).toNat []):=fun hlt=>by
   rw[E.row,ba6];show az6 lv ((J.c 0).getD (J.i 0).toNat []) ((J.c 1).getD (J.i 0).toNat []) 0↔_;rw[hI.ha,hI.hb];constructor
   .intro h;exact cH8 (f:=0) (ha.ok _ (aW5 U)) (hb.ok _ (aW5 U)) h
   .intro h;rw[h];exact cT3 _ _ _
  refine⟨?_,?_,?_,?_,?_,trivial⟩
  .intro hpc;have h:=hpc.1;rw[e0]at h;rw[e1];omega
  .intro hpc;exact hpc.1
  .intro hpc N ac w' hM;have h1:=hpc.1;have h2:=hpc.2.2.2.1;rw[e0]at h2;rw[y9,rows h2]at h1;refine aQ5 (P:=P) eqP (y7 fn) _ (aL9 (B:=⟨J,fun _=>False,w,N0,4⟩) hM E.ret1 ⟨?_,Sy.Only.R9 hM.only⟩);rw[no (fun h=>h1 (by rw[h]))];rfl
  .intro hpc N u;have h1:=hpc.1;have h2:=hpc.2.2.2.1;rw[e0]at h2;rw[rows h2]at h1;refine⟨⟨hI.g,hI.ha,hI.hb,?_,?_,?_⟩,?_⟩
   .show 0<=J.i 0+1;omega
   .show J.i 0+1<=_;omega
   .show ∀ j,j<(J.i 0+1).toNat->_;intro j hj;by_cases hji:j=(J.i 0).toNat
    .rw[hji];exact h1
    .exact hI.eq j U
   .show a.length - (J.i 0+1).toNat<a.length - (J.i 0).toNat;omega
  .intro hpc N ac w' hM;refine aY4 (B:=⟨J,fun _=>False,w,N0,4⟩) hI.g (fun q hq=>by cases hq) rfl (.exit 0) E.fin ?_ hM;refine⟨?_,trivial⟩;intro hpc2 N2 w2 hH;have h:=hpc.1;rw[y9,e0]at h;refine⟨?_,Sy.Only.R9 hH.only⟩;have:a=b:=br3 hl fun j hj=>hI.eq j U
   show Value.bool true=_;rw[(bi9 ha.ok hb.ok).2 this]
def cU5(x y:Tm):Tm:=if E7 x y then .bl true else .tb .eq x y i9
theorem dA4(v:Value):sqV v v=true:=by
 cases v with
 | int k n=>simp[sqV,ab3]
 | bool b=>simp[sqV]
 | string s=>simp[sqV]
 | pointer a=>cases a<;>simp[sqV]
 | slice a n c=>simp[sqV]
 | _=>rfl
theorem b30:∀ r:List Value,sqR r r=true
 | []=>rfl
 | v::r=>by simp[sqR,dA4 v,b30 r]
theorem b29:∀ r:List (List Value),sqT r r=true
 | []=>rfl
 | v::r=>by simp[sqT,b30 v,b29 r]
theorem dn7(J:Env)(x y:Tm):(u9 J (cU5 x y)).b=sqT (u9 J x).c (u9 J y).c:=by
 unfold cU5;split
 .rename_i q;rw[H9 q,b29];rfl
 .rfl
def a42(c:Cx)(hp:List Bk)(ty:TypeId)(lv:List Kd):SV->Option (List Tm × Option Nat × Tm)
 | .one (.c .nslc)=>some ([],none,tn)
 | .one (.c (.slt l m off len an))=>match aD0 l hp with
   | some b=>match b.str,b.x with
     | none, .tab lv' t=>if Nat.beq b.ty ty&&(aa0 lv lv'&&(Nat.beq m lv.length&&(E7 off i9&&E7 an i9)))then some (F9 c (.le len (aB4 c t))++(F9 c (.le (aB4 c t) len)++F9 c (.le (aB4 c t) qcb)),some l,t)else none
     | _,_=>none
   | none=>none
 | _=>none
theorem bn9{J:Env}{S:Nat->Prop}{w0:World}{N0:Bn}{n0:Nat}{s:Sy.St}{N:Bn}{a:Act}{w:World}(hM:Md J S w0 N0 n0 s N a w){c:Cx}(hc:c.ok J){ty:TypeId}{lv:List Kd}{x:SV}{m:List Tm}{ol:Option Nat}{t:Tm}(h:a42 c s.hp ty lv x=some (m,ol,t))(hm:Met J m):
 ∃ g cap,x.A1 J N=aC9 g cap (u9 J t).c.length/\RowT w g cap ty lv (u9 J t).c/\(u9 J t).c.length<=140737488355328/\(cap≠0->∃ b∈s.hp,ol=some b.l/\b.G0 N/\g=N b.l):=by
 unfold a42 at h;split at h
 .injection h with h;injection h with h1 h2;injection h2 with h2 h3;subst h1 h2 h3;exact⟨0,0,rfl,RowT.bC7 ..,bf _,fun h=>absurd rfl h⟩
 .rename_i l mm off len an;split at h
  .rename_i b hf;split at h
   .rename_i lv' t' hs hx;split at h
    .rename_i q;simp only[m5]at q;injection h with h;injection h with h1 h2;injection h2 with h2 h3;subst h1 h2 h3;have q1:=af q.1;have q2:=aZ9 q.2.1;have q3:=af q.2.2.1;subst q2 q3;have hmem:=U4 hf;have hB:=hM.hp b hmem.1;unfold BkOk at hB;rw[hs,hx]at hB;have hB:RowT w (N b.l) (N (b.l+1)) b.ty lv (u9 J t').c:=hB;rw[hmem.2,q1]at hB;have l1:=B2 (z0 hc hm.l);have l2:=B2 (z0 hc hm.r.l);have l3:=B2 (z0 hc hm.r.r);rw[aH1 hc]at l1 l2 l3;change _<=(140737488355328:Int)at l3;refine⟨N l,N (l+1),?_,hB,by omega,fun h0=>⟨b,hmem.1,by rw[hmem.2], .inr (by rw[hmem.2];exact h0),by rw[hmem.2]⟩⟩;show C.G2 J N (.slt l lv.length off len an)=_;rw[aE6,H9 q.2.2.2.1,H9 q.2.2.2.2];show aK5 _ _ _ ((0:Int)).toNat _ ((0:Int)).toNat=_;rw[show((0:Int)).toNat=0 from rfl,aD2];congr 1;omega
    .cases h
   .cases h
  .cases h
 .cases h
def eI7:Option Nat->Option Nat->Bool
 | some a,some b=> !(Nat.beq a b)
 | _,_=>true
def dF9(f:FuncId)(ty:TypeId)(lv:List Kd):Spec where
 f:=f
 pre:=fun s xs=>match xs with
  | [x,y]=>match a42 s.cx s.hp ty lv x,a42 s.cx s.hp ty lv y with
    | some (m1,l1,_),some (m2,l2,_)=>if eI7 l1 l2 then some (m1++m2)else none
    | _,_=>none
  | _=>none
 go:=fun _ s xs=>match xs with
  | [x,y]=>match a42 s.cx s.hp ty lv x,a42 s.cx s.hp ty lv y with
    | some (_,_,t),some (_,_,u)=>some (s, .one (.c (.bool (cU5 t u))))
    | _,_=>none
  | _=>none
theorem dp5{P:Program}{J:Env}{f:FuncId}{fn:Func}{ty:TypeId}{lv:List Kd}{q0:Tm}(E:EqRuns P f fn ty lv q0):(dF9 f ty lv).Ok P J:=by
 intro B s xs m s' v hB hpre hgo hm N a w hM;subst hB;simp only[dF9]at hpre hgo;split at hgo
 .rename_i x y;simp only[]at hpre;split at hgo
  .rename_i m1 l1 t m2 l2 u h1 h2;rw[h1,h2]at hpre;simp only[]at hpre;split at hpre
   .rename_i q;injection hpre with hpre;injection hgo with hgo;injection hgo with e1 e2;subst hpre e1 e2;obtain⟨g1,c1,a1,a2,a3,a4⟩:=bn9 hM hM.cx h1 hm.l;obtain⟨g2,c2,b1,b2,b3,b4⟩:=bn9 hM hM.cx h2 hm.r;have hne:c1≠0->c2≠0->g1≠g2:=fun n1 n2=>by
     obtain⟨p,hp,rfl,pr,rfl⟩:=a4 n1;obtain⟨r,hr,rfl,rr,rfl⟩:=b4 n2;refine hM.neq p hp r hr (fun e=>?_) pr rr;rw[e]at q;change(!(Nat.beq r.l r.l))=true at q;rw[Nat.beq_refl]at q;cases q
    show Calls P f (#[x.A1 B.J N,y.A1 B.J N]) w _;rw[a1,b1];refine(dF7 E a2 b2 a3 b3 hne).mono ?_;rintro e w' ⟨rfl,hb⟩;refine⟨N,a,?_,⟨hM.act,fun b hb'=>(hM.hp b hb').cZ4 hb,hM.ne,hM.may,hM.cx,hM.only.bD3 hb,hM.old⟩⟩;show Ending.returned (.bool _)= .returned (.bool (u9 B.J (cU5 t u)).b);rw[dn7]
   .cases hpre
  .cases hgo
 .cases hgo
def bS0(n:Nat):List Nat->Code->Bool
 | 0::p, .seq a _=>bS0 n p a
 | 1::p, .seq _ b=>bS0 n p b
 | 2::p, .block id a=> !(Nat.beq n id)&&bS0 n p a
 | 2::p, .scope a=>bS0 n p a
 | _,_=>true
theorem au6(n:Nat):∀(p:List Nat) (c:Code),bS0 n p c=true->bL2 n p c
 | [],c,_=>by cases c<;>exact trivial
 | d::p,c,h=>by
   rcases d with _|_|_|d
   .cases c<;>first|exact au6 n p _ h|exact trivial
   .cases c<;>first|exact au6 n p _ h|exact trivial
   .cases c<;>try exact trivial
    .rename_i id x;change(!(Nat.beq n id)&&bS0 n p x)=true at h;rw[m5,aN]at h;exact⟨fun e=>(by rw[e,Nat.beq_refl]at h;cases h.1),au6 n p _ h.2⟩
    .exact au6 n p _ h
   .cases c<;>exact trivial
def aP1(c:Code)(j:Nat):Oper:=match c with
 | .region _ ops _=>(ops[j]?).getD default
 | _=>default
def bj4:Code->Nat
 | .region id _ _=>id
 | _=>0
end Sy
end Go.Proofs.YtnlcpcmdlcakgaaGreat
