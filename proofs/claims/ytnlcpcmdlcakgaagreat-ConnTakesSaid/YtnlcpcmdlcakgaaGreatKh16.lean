/- A part of the proof that a connection answers as the document says: Iq4 Iq5. -/
import Derived.Test.YtnlcpcmdlcakgaaGreatKh15
set_option maxRecDepth 100000
set_option maxHeartbeats 4000000
set_option linter.unusedVariables false
set_option linter.unusedSimpArgs false
set_option linter.unusedSectionVars false
open Go.Proofs.Tryz
namespace Go.Proofs.YtnlcpcmdlcakgaaGreat
open Go.RowKit Sy
def Z3(L:List (List Value))(read fin:Int):Bool:=decide (0<fin/\L1 L read=fin)
def Z8(L:List (List Value))(read fin:Int):Int:=L1 L read+if Z3 L read fin then 1 else 0
def aG7(L:List (List Value))(read fin at_:Int):Bool:=decide (at_< -1152921504606846976\/1152921504606846976<at_)||Z3 L read fin
def aV7(L:List (List Value))(read fin at_:Int)(body:ByteArray):PA:=⟨at_,L1 L read,L1 L read+(2048 - (L1 L read - read)),fin,body⟩
def W8(L:List (List Value))(read fin at_:Int)(body:ByteArray):List (List Value):=if aG7 L read fin at_ then L else aJ1 (aV7 L read fin at_ body) L body.size
def aZ2(L:List (List Value))(read fin at_:Int)(body:ByteArray)(ff:Bool):Bool:=ff&&decide (fin=0/\L1 L read<=at_+body.size/\at_+(body.size:Int)<=L1 L read+(2048 - (L1 L read - read)))
def aF7(L:List (List Value))(read fin at_:Int)(body:ByteArray)(ff:Bool):Int:=if aG7 L read fin at_ then fin else if aZ2 L read fin at_ body ff=true/\Q7 (W8 L read fin at_ body)<=at_+body.size then at_+body.size else fin
def ah4(L:List (List Value))(read fin at_:Int)(body:ByteArray)(ff:Bool):Bool:=if aG7 L read fin at_ then false else decide (L1 L read<Z8 (W8 L read fin at_ body) read (aF7 L read fin at_ body ff))
structure RpIn(L:List (List Value))(read fin at_:Int)(body:ByteArray):Prop where
 g:aB2 L
 k:Q7 L<=1153202979583557632
 r0:0<=read
 r1:read<=1153202979583557632
 f0:0<=fin
 f1:fin<=1153202979583557632
 a0: -9223372036854775808<=at_
 a1:at_<=9223372036854775807
 b:body.size<=140737488355328
theorem RpIn.pa{L:List (List Value)}{read fin at_:Int}{body:ByteArray}(h:RpIn L read fin at_ body)(hb:aG7 L read fin at_=false):(aV7 L read fin at_ body).ok 1153202979583557632:=by
 have hb1:¬(at_< -1152921504606846976\/1152921504606846976<at_):=by
  intro q;unfold aG7 at hb;rw[aD q]at hb;cases hb
 have:=h.b;exact⟨show -1152921504606846976<=at_ by omega,show at_+(body.size:Int)<=1153202979583557632 by omega,by decide,by decide⟩
theorem RpIn.map{L:List (List Value)}{read fin at_:Int}{body:ByteArray}(h:RpIn L read fin at_ body):aB2 (W8 L read fin at_ body)/\Q7 (W8 L read fin at_ body)<=1153202979583557632:=by
 unfold W8;split
 .exact⟨h.g,h.k⟩
 .rename_i q;exact bF1 (h.pa (by simpa using q)) h.g h.k (aI _)
theorem RpIn.gp{L:List (List Value)}{read fin at_:Int}{body:ByteArray}(h:RpIn L read fin at_ body):read<=L1 L read/\L1 L read<=1153202979583557632:=by
 have:=ao6 h.g read;have:=(aR8 h.g read).1;have:=h.k;have:=h.r1;omega
structure PuI(L:List (List Value))(read fin at_:Int)(body:ByteArray)(ff:Bool)(J:Env):Prop where
 g:J.R8
 f:J.f=inF
 i0:J.i 0=read
 i1:J.i 1=fin
 i2:J.i 2=at_
 i5:J.i 5=L1 L read
 i6:J.i 6=L1 L read+(2048 - (L1 L read - read))
 s0:J.s 0=body
 b0:J.b 0=ff
 n0:0<=J.i 3
 n1:J.i 3<=(body.size:Int)
 c1:J.c 1=aJ1 (aV7 L read fin at_ body) L (J.i 3).toNat
structure UI(L:List (List Value))(read fin at_:Int)(body:ByteArray)(ff:Bool)(J:Env):Prop where
 g:J.R8
 f:J.f=inF
 i0:J.i 0=read
 i1:J.i 1=fin
 i5:J.i 5=L1 L read
 i7:J.i 7=at_+body.size
 b1:J.b 1=aZ2 L read fin at_ body ff
 c1:J.c 1=W8 L read fin at_ body
structure VI(L:List (List Value))(read fin at_:Int)(body:ByteArray)(ff:Bool)(J:Env):Prop where
 g:J.R8
 f:J.f=inF
 i0:J.i 0=read
 i5:J.i 5=L1 L read
 i8:J.i 8=aF7 L read fin at_ body ff
 c1:J.c 1=W8 L read fin at_ body
section
variable{L:List (List Value)}{read fin at_:Int}{body:ByteArray}{ff:Bool}
theorem ch8{J:Env}(hf:J.f=inF)(t:Tm):(u9 J (kmT t)).i=Q7 (u9 J t).c:=by
 show(J.f 31 _ _ _).i=_;rw[hf];rfl
theorem df6{J:Env}(hf:J.f=inF)(t:Tm):(u9 J (aO7 t)).i=L1 (u9 J t).c (J.i 0):=by
 show(J.f 30 _ _ _).i=_;rw[hf];rfl
theorem PuI.cx(h:RpIn L read fin at_ body)(hb:aG7 L read fin at_=false){J:Env}(I:PuI L read fin at_ body ff J):(puT prog f108).cx.ok J:=by
 rw[dw4];have hp:=(h.pa hb).a0;have hp2:¬(at_< -1152921504606846976\/1152921504606846976<at_):=by
  intro q;unfold aG7 at hb;rw[aD q]at hb;cases hb
 have e0:=I.i0;have e1:=I.i1;have e2:=I.i2;have e5:=I.i5;have e6:=I.i6;have n0:=I.n0;have n1:=I.n1;have gp:=h.gp;have r0:=h.r0;have r1:=h.r1;have f0:=h.f0;have f1:=h.f1;have hb:=h.b;refine cxP ⟨?_,?_,?_,?_,?_,?_,?_,trivial⟩ trivial
 .show 0<=J.i 5/\J.i 5<=2305843009213693952;omega
 .show 0<=J.i 6/\J.i 6<=2305843009213695999;omega
 .show 0<=J.i 3/\J.i 3<=140737488355328;omega
 .show 0<=J.i 0/\J.i 0<=2305843009213693952;omega
 .show 0<=J.i 1/\J.i 1<=2305843009213693952;omega
 .show -1152921504606846976<=J.i 2/\J.i 2<=1152921504606846976;omega
 .show(0:Int)<=((J.s 0).size:Int)/\((J.s 0).size:Int)<=140737488355328;rw[I.s0];omega
theorem UI.cx(h:RpIn L read fin at_ body)(hb:aG7 L read fin at_=false){J:Env}(I:UI L read fin at_ body ff J):Cx.ok J ⟨uBs,[]⟩:=by
 have hp2:¬(at_< -1152921504606846976\/1152921504606846976<at_):=by
  intro q;unfold aG7 at hb;rw[aD q]at hb;cases hb
 have e0:=I.i0;have e1:=I.i1;have e5:=I.i5;have e7:=I.i7;have gp:=h.gp;have r0:=h.r0;have r1:=h.r1;have f0:=h.f0;have f1:=h.f1;have hb:=h.b;have hk:=h.map.2;have h0:=aI8 (W8 L read fin at_ body);refine cxP ⟨?_,?_,?_,?_,?_,trivial⟩ trivial
 .show 0<=J.i 5/\J.i 5<=2305843009213693952;omega
 .show -2305843009213693952<=J.i 7/\J.i 7<=2305843009213693952;omega
 .show 0<=J.i 0/\J.i 0<=2305843009213693952;omega
 .show 0<=J.i 1/\J.i 1<=2305843009213693952;omega
 .show 0<=(u9 J (kmT j5)).i/\(u9 J (kmT j5)).i<=2305843009213693952;rw[ch8 I.f];show 0<=Q7 (J.c 1)/\Q7 (J.c 1)<=2305843009213693952;rw[I.c1];omega
theorem ao5(h:RpIn L read fin at_ body):0<=aF7 L read fin at_ body ff/\aF7 L read fin at_ body ff<=1153202979583557632:=by
 have f0:=h.f0;have f1:=h.f1;unfold aF7;split
 .exact⟨f0,f1⟩
 .rename_i q;have hp2:¬(at_< -1152921504606846976\/1152921504606846976<at_):=by
   intro q';apply q;unfold aG7;rw[aD q'];rfl
  have hb:=h.b;split
  .rename_i q2;have:=aI8 (W8 L read fin at_ body);have:=q2.2;omega
  .exact⟨f0,f1⟩
theorem VI.cx(h:RpIn L read fin at_ body){J:Env}(I:VI L read fin at_ body ff J):(puV prog f108).cx.ok J:=by
 rw[dw2];have e0:=I.i0;have e8:=I.i8;have e5:=I.i5;have gp:=h.gp;have r0:=h.r0;have r1:=h.r1;have ff:=ao5 (ff:=ff) h;have hk:=h.map.2;have h0:=aI8 (W8 L read fin at_ body);refine cxP ⟨?_,?_,?_,?_,trivial⟩ trivial
 .show 0<=J.i 5/\J.i 5<=2305843009213693952;omega
 .show 0<=J.i 0/\J.i 0<=2305843009213693952;omega
 .show 0<=J.i 8/\J.i 8<=2305843009213693952;omega
 .show 0<=(u9 J (kmT j5)).i/\(u9 J (kmT j5)).i<=2305843009213693952;rw[ch8 I.f];show 0<=Q7 (J.c 1)/\Q7 (J.c 1)<=2305843009213693952;rw[I.c1];omega
def ad8(w:World)(g gm:Nat)(L:List (List Value))(read fin at_:Int)(body:ByteArray)(ff:Bool)(v:Value)(w':World):Prop:=
 v= .bool (ah4 L read fin at_ body ff)/\Blk w' g 135 (aG3 gm read (aF7 L read fin at_ body ff))/\MapT w' gm [.int .i64] false (.int .u8) (W8 L read fin at_ body)/\Only (fun x=>x=g\/x=gm) w w'
theorem dw6:aft .normal [1,1,1,1,1,0,1,1] (y7 f108)=aft .normal [0,1,1] (puR f108):=by kernel_rfl
abbrev bn2(g gm:Nat):Bn:=fun n=>if n=0 then g else gm
abbrev S2(g gm:Nat):Nat->Prop:=fun x=>x=g\/x=gm
theorem a91{J:Env}(hf:J.f=inF):∀ q∈[af8],Sy.Spec.Ok prog J q:=fun q hq=>by
 rw[ah.1 hq];exact cG4 (fun x y z=>by rw[hf];rfl) (fun x y z=>by rw[hf];rfl)
theorem cg4{w:World}{g gm:Nat}(h:RpIn L read fin at_ body)(hb:aG7 L read fin at_=false){J:Env}(I:VI L read fin at_ body ff J){N:Bn}{a:Act}{w1:World}(hM:Md J (S2 g gm) w (bn2 g gm) 4 (puV prog f108) N a w1):
 Y7 prog [1,1,1,1,1,0,1,1] (y7 f108) (bodyPost prog f108 (F7 (ad8 w g gm L read fin at_ body ff))) .normal a w1:=by
 have run7:=da6;rw[<-dw6]at run7;refine aY4 (B:=⟨J,S2 g gm,w,bn2 g gm,4⟩) I.g (a91 I.f) rfl .normal run7 ?_ hM;have hg1:(u9 J (aO7 j5)).i=L1 (W8 L read fin at_ body) read:=by
  rw[df6 I.f];show L1 (J.c 1) (J.i 0)=_;rw[I.c1,I.i0]
 have fin':∀(q:Tm) pc,(A6 J pc->(u9 J q).b=decide (L1 L read<Z8 (W8 L read fin at_ body) read (aF7 L read fin at_ body ff)))->Sm.bT6 ⟨J,S2 g gm,w,bn2 g gm,4⟩ (ad8 w g gm L read fin at_ body ff) (.ret (.one (.c (.bool q))) vHp pc):=by
  intro q pc hq hpc N w2 hH;refine⟨?_,?_,?_,hH.only⟩
  .show Value.bool (u9 J q).b=_;rw[hq hpc];unfold ah4;rw[hb];rfl
  .have:=hH.hp _ (ae ..);have:Blk w2 (N 0) 135 (aG3 (N 2) (J.i 0) (J.i 8)):=this;rw[hH.old 0 (show 0<4 by decide),hH.old 2 (show 2<4 by decide),I.i0,I.i8]at this;exact this
  .have:=hH.hp _ (aj _ (ae ..));have:MapT w2 (N 2) [.int .i64] false (.int .u8) (J.c 1):=this;rw[hH.old 2 (show 2<4 by decide),I.c1]at this;exact this
 have e8:=I.i8;have e5:=I.i5;refine⟨fin' _ _ ?_,fin' _ _ ?_,fin' _ _ ?_,trivial⟩;all_goals
  intro hpc;simp only[A6,A7,A9,y9,F0,A0,hg1,e8,and_true]at hpc
 .show decide ((u9 J l8).i<(u9 J (aO7 j5)).i+1)=_;rw[hg1,F0,e5];unfold Z8 Z3;rw[aD (p:=0<_/\_) ⟨hpc.2,hpc.1⟩];rfl
 .show decide ((u9 J l8).i<(u9 J (aO7 j5)).i)=_;rw[hg1,F0,e5];unfold Z8 Z3;rw[aH (p:=0<_/\_) (fun q=>hpc.1 q.2),if_neg bA,Int.add_zero]
 .show decide ((u9 J l8).i<(u9 J (aO7 j5)).i)=_;rw[hg1,F0,e5];unfold Z8 Z3;rw[aH (p:=0<_/\_) (fun q=>hpc q.1),if_neg bA,Int.add_zero]
end
section
variable{L:List (List Value)}{read fin at_:Int}{body:ByteArray}{ff:Bool}{w:World}{g gm:Nat}
theorem a37{J:Env}{n:Nat}{v:Value}{r:Nat->Value}{N:Bn}:(SV.any n).A1 { J with u:=fun k=>if k=n then v else r k } N=v:=if_pos rfl
theorem cf8:Sy.I9 [1,0,1] (puH f108)= .block 2 (Sy.I9 [1,0,1,2] (puH f108)):=by kernel_rfl
structure WI(L:List (List Value))(read fin at_:Int)(body:ByteArray)(ff:Bool)(es:Array MapEntry)(seen:Array Nat)(J:Env):Prop where
 u:UI L read fin at_ body ff J
 b2:J.b 2=true↔∀ e∈es.toList,e.born∈seen.toList->∀ k,e.key= .int .i64 k->k<at_+body.size
theorem cO7{es:List MapEntry}{M:List (List Value)}(hg:aB2 M)(he:es.map (fun e=>(e.key,e.val))=M.map (aK4 false 1)){e:MapEntry}(h:e∈es):∃ k:Int,e.key= .int .i64 k/\(Lit.int .i64 k).wf=true:=by
 have:(e.key,e.val)∈M.map (aK4 false 1):=he ▸ aZ.2 ⟨e,h,rfl⟩;obtain⟨r,hr,e'⟩:=aZ.1 this;obtain⟨k,b,rfl,hk,_⟩:=aV8 (hg r hr);exact⟨k,(congrArg Prod.fst e').symm,hk⟩
theorem cz3{es:List MapEntry}{M:List (List Value)}(hg:aB2 M)(he:es.map (fun e=>(e.key,e.val))=M.map (aK4 false 1))(p:Int):(∀ e∈es,∀ k,e.key= .int .i64 k->k<p)↔∀ r∈M,av7 r<p:=by
 constructor
 .intro h r hr;have:aK4 false 1 r∈es.map (fun e=>(e.key,e.val)):=he ▸ aZ.2 ⟨r,hr,rfl⟩;obtain⟨e,hm,e'⟩:=aZ.1 this;obtain⟨k,b,rfl,_,_⟩:=aV8 (hg r hr);exact h e hm k (congrArg Prod.fst e')
 .intro h e hm k hk;have:(e.key,e.val)∈M.map (aK4 false 1):=he ▸ aZ.2 ⟨e,hm,rfl⟩;obtain⟨r,hr,e'⟩:=aZ.1 this;have hr1:=h r hr;obtain⟨k',b,rfl,_,_⟩:=aV8 (hg r hr);have:Value.int .i64 k'=e.key:=congrArg Prod.fst e';rw[hk]at this;injection this with _ this;subst this;exact hr1
theorem cx4(h:RpIn L read fin at_ body)(hb:aG7 L read fin at_=false)(ht:aZ2 L read fin at_ body ff=true){J:Env}(I:UI L read fin at_ body ff J)(hfree:J.b 2=decide (Q7 (W8 L read fin at_ body)<=at_+body.size)){N:Bn}{a:Act}{w1:World}(hM:Md J (S2 g gm) w (bn2 g gm) 4 (puW prog f108) N a w1):
 (Sy.I9 [1,1] (puH f108)).wp prog (Y7 prog [1,1,1,1,1,0,1,1] (y7 f108) (bodyPost prog f108 (F7 (ad8 w g gm L read fin at_ body ff)))) a w1:=by
 refine co1 (r:=pu6 prog f108) rfl da7 (VI L read fin at_ body ff) (fun J I=>I.cx h) I.g (fun q hq=>by cases hq) ?_ (fun J I N a w hM=>cg4 h hb I hM) hM;have fin':J.b 2=true->aF7 L read fin at_ body ff=at_+body.size:=fun q=>by
  rw[hfree,aB]at q;unfold aF7;rw[hb,if_neg bA,if_pos ⟨ht,q⟩]
 have fin2:J.b 2=false->aF7 L read fin at_ body ff=fin:=fun q=>by
  rw[hfree,decide_eq_false_iff_not]at q;unfold aF7;rw[hb,if_neg bA,if_neg fun c=>q c.2]
 refine⟨?_,?_,trivial⟩
 .intro hpc N u;have hq:J.b 2=true:=hpc.1;refine⟨I.g,I.f,I.i0,I.i5,?_,I.c1⟩;show J.i 7=_;rw[I.i7,fin' hq]
 .intro hpc N u;have hq:J.b 2=false:=by
   have:=hpc.1;rw[y9]at this;simpa[G1]using this
  refine⟨I.g,I.f,I.i0,I.i5,?_,I.c1⟩;show J.i 1=_;rw[I.i1,fin2 hq]
theorem dw0(hgl:g<w.heap.size)(hgml:gm<w.heap.size)(h:RpIn L read fin at_ body)(hb:aG7 L read fin at_=false)(ht:aZ2 L read fin at_ body ff=true){J:Env}(I:UI L read fin at_ body ff J){N:Bn}{a:Act}{w1:World}(hM:Md J (S2 g gm) w (bn2 g gm) 4 (I1 (pu3 prog f108) 0) N a w1):
 (Sy.I9 [1,0,0] (puH f108)).wp prog (Y7 prog [1,0,0] (puH f108) (Y7 prog [1,1,1,1,1,0,1,1] (y7 f108) (bodyPost prog f108 (F7 (ad8 w g gm L read fin at_ body ff))))) a w1:=by
 obtain⟨o,hc,g1,p1,d1⟩:=dv8.c;rw[hc];refine wp_region_list ?_;show wpList _ _ _ (cM7 f108++[o]) a w1;obtain⟨s1,e⟩:=Prod.mk.inj eO6;obtain⟨s2,e⟩:=Prod.mk.inj e;obtain⟨s3,s4⟩:=Prod.mk.inj e;refine b54 (B:=⟨J,S2 g gm,w,bn2 g gm,4⟩) I.g (fun q hq=>by cases hq) da9 (fun N a w1 hM=>?_) hM;refine dB8 hM g1 p1 d1 underlying133 s1 s2 (show 4<=40 by decide) s3 s4 bA bA fun es clock w2 N1 hold hL hes hit M5=>?_
 refine wpList_nil ?_;show(Sy.I9 [1,0,1] (puH f108)).wp prog (Y7 prog [1,0] (puH f108) (Y7 prog [1,1,1,1,1,0,1,1] (y7 f108) (bodyPost prog f108 (F7 (ad8 w g gm L read fin at_ body ff))))) _ w2;rw[cf8];refine wp_block ?_;rw[<-cx3];have hU1:∀ u,UI L read fin at_ body ff { J.L5 N1 [.b 2 l6]with u:=u }:=fun u=>⟨I.g,I.f,I.i0,I.i1,I.i5,I.i7,I.b1,I.c1⟩
 have hW0:∀ u,WI L read fin at_ body ff es #[] { J.L5 N1 [.b 2 l6]with u:=u }:=fun u=>⟨hU1 u,⟨fun _ e _ hs=>by simp at hs,fun _=>rfl⟩⟩
 have hold4:∀ l,l<4->N1 l=bn2 g gm l:=fun l hl=>M5.old l hl
 have hgmE:N 2=gm:=hM.old 2 (show 2<4 by decide);rw[hgmE]at hit;have hEs:es.toList.map (fun e=>(e.key,e.val))=(W8 L read fin at_ body).map (aK4 false 1):=by
  have:(u9 J j5).c=W8 L read fin at_ body:=I.c1;rw[this]at hes;exact hes
 have hgood:=h.map.1;have cxW:∀ J,UI L read fin at_ body ff J->(puW prog f108).cx.ok J:=fun J I=>by rw[dw1];exact I.cx h hb
 obtain⟨u,N2,M6⟩:=Sy.Md.aL7 (Sy.Md.at_ M5 42) cg0 fun u=>cxW _ (hU1 u)
 obtain⟨a110,e⟩:=List.cons.inj dw5;obtain⟨a111,e⟩:=List.cons.inj e;obtain⟨a112,e⟩:=List.cons.inj e;obtain⟨a113,e⟩:=List.cons.inj e;obtain⟨n110,e⟩:=List.cons.inj cx2;obtain⟨n111,e⟩:=List.cons.inj e;obtain⟨n112,e⟩:=List.cons.inj e;obtain⟨n113,e⟩:=List.cons.inj e;obtain⟨sIt,low⟩:=Prod.mk.inj eO7;generalize w1.heap.size=r at hL hit M5 M6;have neW:∀ N:Bn,(∀ l,l<42->N l=N1 l)->∀ b∈(puW prog f108).hp,b.G0 N->N b.l≠r:=by
  intro N hN b hb' _;have hnew:w.heap.size<=r:=hit.new;rw[cg3]at hb';rcases aa.1 hb' with rfl|hb'
  .show N 0≠r;rw[hN 0 bA,hold4 0 bA];show g≠r;omega
  .rw[ah.1 hb'];show N 2≠r;rw[hN 2 bA,hold4 2 bA];show gm≠r;omega
 have owW:∀ b∈(puW prog f108).hp,b.own=false:=by
  have e:((puW prog f108).hp.any Bk.own)=false:=by kernel_rfl
  intro b hb;cases q:b.own with
  | false=>rfl
  | true=>exact absurd (List.any_eq_true.2 ⟨b,hb,q⟩) (by rw[e];decide)
 have neW':∀ N:Bn,(∀ l,l<42->N l=N1 l)->∀ b∈(puW prog f108).hp,b.G0 N->¬fp N b r:=fun N hN b hb hr q=>neW N hN b hb hr (Q9 (owW b hb) q).symm
 have mayW:∀ N:Bn,(∀ l,l<42->N l=N1 l)->∀ b∈(puW prog f108).hp,b.rw=true->b.G0 N->S2 g gm (N b.l)\/w.heap.size<=N b.l:=by
  intro N hN b hb' _ _;rw[cg3]at hb';rcases aa.1 hb' with rfl|hb'
  .refine .inl (.inl ?_);show N 0=g;rw[hN 0 bA,hold4 0 bA];rfl
  .rw[ah.1 hb'];refine .inl (.inr ?_);show N 2=gm;rw[hN 2 bA,hold4 2 bA];rfl
 refine bZ9 (ι:=Env × Array Nat) (fun i a w'=>WI L read fin at_ body ff es i.2 i.1/\∃ N,Md i.1 (S2 g gm) w N1 42 (puW prog f108) N a w'/\Itr N w w' (puW prog f108) r gm clock es clock i.2) (fun i=>(leftOf es i.2).size) ?_ (_,#[]) ⟨hW0 u,N2,M6,⟨hit.it,hit.map,hit.sc,hit.old,hit.nd,hit.new,neW' N2 M6.old⟩⟩;rintro⟨J1,seen⟩ a3 w3 ⟨hW,N3,M,hI⟩;dsimp only at hW M hI ⊢;obtain⟨o1,o2,o3,o4,o5,i1,i2,rr,hcode,⟨g1,p1,d1⟩,⟨g2,p2,d2⟩,⟨g3,p3,d3⟩,⟨g4,p4,d4⟩,⟨g5,p5,d5⟩⟩:=dv7.c;have hrr:Sy.I9 [1,1,2,1] (puB f108)=rr:=by rw[hcode];rfl
 rw[hcode];have hv:∀{J:Env} {S w0 N a w},Md J S w0 N1 42 (puW prog f108) N a w->a.eval (.tmp 109)= .pointer (some ⟨r,0,none⟩):=fun M=>by
  have:=Sy.Md.bC8 M sIt;rw[this];show Value.pointer (some ⟨_,0,none⟩)=_;rw[M.old 40 bA,hL]
 refine wp_seq (wp_region_list ?_);show wpList _ _ _ [o1,o2] a3 w3;refine dn6 M hI g1 p1 d1 g2 p2 d2 (hv M) a110 n110 a111 n111 bA ?_ ?_
 .intro hall a4 M4;refine wp_seq (wp_cond_false ?_ (wp_exit ?_))
  .exact(Sy.Md.bC8 M4 a111).trans a37
  .show(Sy.I9 [1,1] (puH f108)).wp prog (Y7 prog [1,1,1,1,1,0,1,1] (y7 f108) (bodyPost prog f108 (F7 (ad8 w g gm L read fin at_ body ff)))) a4 w3;have hk:(∀ e∈es.toList,e.born∈seen.toList->∀ k,e.key= .int .i64 k->k<at_+body.size)↔Q7 (W8 L read fin at_ body)<=at_+body.size:=by
    have:=cz3 hgood hEs (at_+body.size);constructor
    .intro q;refine bE8 ?_ (this.1 fun e he=>q e he (hall e he));have gp:=h.gp;have r0:=h.r0;unfold aZ2 at ht;rw[m5,aB]at ht;omega
    .exact fun q e he _=>this.2 (ch9 q) e he
   have M4':=Sy.Md.ec1 (n0:=4) (N0:=bn2 g gm) M4 bA hold4;have hI':∀ u,UI L read fin at_ body ff { J1 with u:=u }:=fun u=>⟨hW.u.g,hW.u.f,hW.u.i0,hW.u.i1,hW.u.i5,hW.u.i7,hW.u.b1,hW.u.c1⟩
   refine cx4 h hb ht (hI' _) ?_ M4';show J1.b 2=_;have hb2:=hW.b2.trans hk;cases q:J1.b 2 with
   | true=>rw[aD (hb2.1 q)]
   | false=>rw[aH fun c=>by rw[hb2.2 c]at q;cases q]
 .intro e he hns a4 w4 M4 hI4 hr4;obtain⟨k,hek,hkwf⟩:=cO7 hgood hEs he;refine wp_seq (wp_cond_true ((Sy.Md.bC8 M4 a111).trans a37) (wp_skip ?_));refine wp_block (wp_seq (wp_region_list ?_));show wpList _ _ _ [o3,o4,o5] a4 w4;refine aA3 (v:= .tuple #[e.key,e.val]) (w':=w4) g3 ?_ ?_
  .unfold execOp;simp only[p3,hv M4,am,cq5 (P:=prog) hr4 hI4 he,ai,aq]
  rw[d3];have M5':=Sy.Md.ax6 M4 a112 n112 (.tuple #[e.key,e.val]);refine aA3 (v:=e.key) (w':=w4) g4 ?_ ?_
  .have:(a4.put (some 112) (.tuple #[e.key,e.val])).eval (.tmp 112)= .tuple #[e.key,e.val]:=(Sy.Md.bC8 M5' a112).trans a37;unfold execOp;simp only[p4,this,Instr.extract,am,bi,be,aq,ai]
  rw[d4];have M6':=Sy.Md.ax6 M5' a113 n113 e.key;refine aA3 (v:=e.key) (w':=w4) g5 ?_ ?_
  .have:((a4.put (some 112) (.tuple #[e.key,e.val])).put (some 113) e.key).eval (.tmp 113)=e.key:=(Sy.Md.bC8 M6' a113).trans a37;unfold execOp;simp only[p5,this,am,aq,ai]
  rw[d5];have M7:=Sy.Md.put (Sy.Md.hi M6' 100 [e.key] low) (some 17) (iI 100);have e17:∀ J':Env,(iI 100).A1 (J'.hi 100 [e.key]) N3=e.key:=fun J'=>by
   rw[hek];rfl
  rw[e17]at M7;have hgd:∀ u,Env.R8 ((({ J1 with u:=u }:Env)).hi 100 [e.key]):=fun u=>hW.u.g
  refine wpList_nil ?_;show rr.wp _ _ _ _;rw[<-hrr];refine co1 (r:=pu5 prog f108) rfl da8 (fun J=>WI L read fin at_ body ff es (seen.push e.born) J) (fun J I=>show(ro (puW prog f108)).cx.ok J from cxW J I.u) (hgd _) (fun q hq=>by cases hq) ?_ ?_ (Sy.Md.ro M7 42)
  .have hin:∀ e'∈es.toList,e'.born∈(seen.push e.born).toList↔(e'.born∈seen.toList\/e'=e):=by
    intro e' he';rw[Array.toList_push,aC,ah];exact⟨fun q=>q.imp id fun q=>bH3 _ hI.nd he' he q,fun q=>q.imp id fun q=>by rw[q]⟩
   refine⟨?_,?_,trivial⟩
   .intro hpc N u;have hq:J1.b 2=true:=hpc.1;refine⟨⟨hW.u.g,hW.u.f,hW.u.i0,hW.u.i1,hW.u.i5,hW.u.i7,hW.u.b1,hW.u.c1⟩,?_⟩;show decide (z9 [e.key] 0<J1.i 7)=true↔_;rw[hek,hW.u.i7,aB];show k<_↔_;constructor
    .intro q e' he' hs k' hk';rcases(hin e' he').1 hs with hs|hs
     .exact hW.b2.1 hq e' he' hs k' hk'
     .rw[hs,hek]at hk';injection hk' with _ hk';omega
    .intro q;exact q e he ((hin e he).2 (.inr rfl)) k hek
   .intro hpc N u;have hq:¬J1.b 2=true:=by
     have:=hpc.1;rwa[y9]at this
    refine⟨⟨hW.u.g,hW.u.f,hW.u.i0,hW.u.i1,hW.u.i5,hW.u.i7,hW.u.b1,hW.u.c1⟩,?_⟩;show false=true↔_;refine⟨fun q=>bK,fun q=>absurd (hW.b2.2 fun e' he' hs=>q e' he' ((hin e' he').2 (.inl hs))) hq⟩
  .intro J' I' N' a' w5 M8;have hN:∀ l,l<42->N' l=N1 l:=fun l hl=>(M8.old l hl).trans (M4.old l hl)
   have hbel:=Sy.Only.R9 M8.only;have hrlt:r<w4.heap.size:=(aP.1 hr4).1;have hmlt:gm<w4.heap.size:=(aP.1 hI4.map).1;obtain⟨c0,h1,h2⟩:=hI4.it;have M9:Md J' (S2 g gm) w N1 42 (puW prog f108) N' a' w5:=by
    have:=Sy.Md.eb9 M8 M4.only fun b hb hw hr q hq=>(Q9 (owW b hb) hq) ▸ mayW N' hN b hb hw hr
    exact⟨this.act,this.hp,this.ne,this.may,this.cx,this.only,hN⟩
   exact⟨(J',seen.push e.born),cC7 (bB3.2 ⟨he,hns⟩),I',N',M9,⟨⟨c0,(hbel.block _ hrlt).trans h1,h2⟩,(hbel.block _ hmlt).trans hI4.map,hI4.sc,hI4.old,hI4.nd,hI4.new,neW' N' hN⟩⟩
theorem bW7(h:RpIn L read fin at_ body)(hO:Blk w g 135 (aG3 gm read fin))(hT:MapT w gm [.int .i64] false (.int .u8) L)(hne:g≠gm):
 Calls prog 108 #[.pointer (some ⟨g,0,none⟩), .int .i64 at_, .string body, .bool ff] w (F7 (ad8 w g gm L read fin at_ body ff)):=by
 have hgl:=hO.lt;have hgml:gm<w.heap.size:=by
  obtain⟨es,clock,ho,_⟩:=hT.obj;exact(aP.1 ho).1
 let J0:Env:=⟨fun n=>if n=0 then read else if n=1 then fin else at_,fun _=>ff,fun _=>body,inF,fun _=> .bool false,fun _=> .bool false,fun _=>L,fun _=>Thing.a20⟩
 have hk0:=aI8 L;have hcx:bf9.cx.ok J0:=by
  have r0:=h.r0;have r1:=h.r1;have f0:=h.f0;have f1:=h.f1;have a0:=h.a0;have a1:=h.a1;have hb:=h.b;have hk:=h.k;refine cxP ⟨?_,?_,?_,?_,?_,trivial⟩ trivial
  .show 0<=read/\read<=2305843009213693952;omega
  .show 0<=fin/\fin<=2305843009213693952;omega
  .show 0<=Q7 L/\Q7 L<=2305843009213693952;omega
  .show -9223372036854775808<=at_/\at_<=9223372036854775807;omega
  .show(0:Int)<=(body.size:Int)/\(body.size:Int)<=140737488355328;omega
 have hM0:Md J0 (S2 g gm) w (bn2 g gm) 4 bf9 (bn2 g gm) ⟨#[],[]⟩ w:=Sy.Md.ax8 ⟨hO,hT,trivial⟩ ⟨⟨fun _ _=>apart.of rfl rfl hne,trivial⟩,trivial,trivial⟩ ⟨fun _ _ q hq=> .inl (Q9 rfl hq),fun _ _ q hq=> .inr (Q9 rfl hq),trivial⟩ hcx rfl
 have hgood:J0.R8:=fun i=>rfl
 have r0:∀ k:Nat,k∈[0,3,4]->aD7 prog (I1 (pu0 prog f108) k) f108.results.toList=some qal:=fun k hk=>List.map_inj_left.1 dv9 k hk
 have hp0:∀ k:Nat,k∈[0,3,4]->(I1 (pu0 prog f108) k).hp=bf9.hp:=fun k hk=>List.map_inj_left.1 eO8 k hk
 have hgap:(u9 J0 (aO7 j8)).i=L1 L read:=rfl;have bar:aG7 L read fin at_=true->∀ k:Nat,k∈[0,3,4]->∀ N a w1,Md J0 (S2 g gm) w (bn2 g gm) 4 (I1 (pu0 prog f108) k) N a w1->bodyPost prog f108 (F7 (ad8 w g gm L read fin at_ body ff)) .ret a w1:=by
  intro hb k hk N a w1 hM;refine aL9 (B:=⟨J0,S2 g gm,w,bn2 g gm,4⟩) hM (r0 k hk) ⟨?_,?_,?_,hM.only⟩
  .show Value.bool false=_;unfold ah4;rw[hb,if_pos rfl]
  .have:=hM.hp (inO 0 2 true j9 m8) (by rw[hp0 k hk];exact ae ..);have:Blk w1 (N 0) 135 (aG3 (N 2) read fin):=this;rw[hM.old 0 bA,hM.old 2 bA]at this;unfold aF7;rw[hb,if_pos rfl];exact this
  .have:=hM.hp (inT 2 true j8) (by rw[hp0 k hk];exact aj _ (ae ..));have:MapT w1 (N 2) [.int .i64] false (.int .u8) L:=this;rw[hM.old 2 bA]at this;unfold W8;rw[hb,if_pos rfl];exact this
 have main:∀(k:Nat),(aA1 4 (puT prog f108) (I1 (pu0 prog f108) k)).map noU=some cM6->aG7 L read fin at_=false->∀ N a w1,Md J0 (S2 g gm) w (bn2 g gm) 4 (I1 (pu0 prog f108) k) N a w1->
  (Sy.I9 puP (y7 f108)).wp prog (Y7 prog puP (y7 f108) (bodyPost prog f108 (F7 (ad8 w g gm L read fin at_ body ff)))) a w1:=by
  intro k hmt hb N a w1 hM1;rw[<-db4];have hp2:¬(at_< -1152921504606846976\/1152921504606846976<at_):=by
   intro q;unfold aG7 at hb;rw[aD q]at hb;cases hb
  have hI1:∀ u,PuI L read fin at_ body ff { J0.L5 N cM6 with u:=u }:=fun u=>⟨hgood,rfl,rfl,rfl,rfl,rfl,rfl,rfl,rfl,aF 0,(by show(0:Int)<=_;omega),rfl⟩
  obtain⟨u,N',hM2⟩:=Sy.Md.aL7 hM1 hmt fun u=>(hI1 u).cx h hb
  refine aK0 (w0:=w) (r:=pu1 prog f108) rfl db2 (PuI L read fin at_ body ff) (fun J=>((body.size:Int) - J.i 3).toNat) (fun J I=>I.g) (fun J I q hq=>by cases hq) (fun J I=>I.cx h hb) ?_ (hI1 u) hM2;intro J I;have n0:=I.n0;have n1:=I.n1;have e1:=I.i1;have e2:=I.i2;have e5:=I.i5;have e6:=I.i6;have es:=I.s0;obtain⟨n,hn⟩:∃ n:Nat,J.i 3=(n:Int):=⟨(J.i 3).toNat,by omega⟩;have c1:=I.c1;rw[hn,aK]at c1;have htn:(J.i 3+1).toNat=n+1:=by omega
  have next:∀{N:Bn} {l:List As} {u},(({ J.L5 N l with u:=u }:Env).i 3=J.i 3+1)->(∀ j,j≠3->({ J.L5 N l with u:=u }:Env).i j=J.i j)->(({ J.L5 N l with u:=u }:Env).s=J.s)->(({ J.L5 N l with u:=u }:Env).b=J.b)->(({ J.L5 N l with u:=u }:Env).f=J.f)->J.i 3<(body.size:Int)->
   ({ J.L5 N l with u:=u }:Env).c 1=as1 (aV7 L read fin at_ body) (aJ1 (aV7 L read fin at_ body) L n) n->PuI L read fin at_ body ff { J.L5 N l with u:=u }/\((body.size:Int) - ({ J.L5 N l with u:=u }:Env).i 3).toNat<((body.size:Int) - J.i 3).toNat:=by
   intro N l u h3 hj hs hb' hf' hlt hc;refine⟨⟨I.g,hf'.trans I.f,(hj 0 bA).trans I.i0,(hj 1 bA).trans I.i1,(hj 2 bA).trans I.i2,(hj 5 bA).trans I.i5,(hj 6 bA).trans I.i6,by rw[hs];exact I.s0,by rw[hb'];exact I.b0,by omega,by omega,?_⟩,by omega⟩;rw[hc,h3,htn];rfl
  have hP:(u9 J pT).i=at_+(n:Int):=by show J.i 2+J.i 3=_;omega
  have hin:((u9 J pN).b=true)=(inM (aJ1 (aV7 L read fin at_ body) L n) (at_+n)≠none):=by rw[pN,cj5,hP];show(inM (J.c 1) _≠none)=_;rw[c1]
  have hlt:(u9 J pI).b=true->J.i 3<(body.size:Int):=fun q=>by
   rw[pI,A7]at q;have:J.i 3<((J.s 0).size:Int):=q;rw[es]at this;exact this
  have put:∀{N:Bn} {u},inM (aJ1 (aV7 L read fin at_ body) L n) (at_+n)=none->L1 L read<=at_+n->at_+n<L1 L read+(2048 - (L1 L read - read))->(fin=0\/at_+n<fin)->({ J.L5 N pBc with u:=u }:Env).c 1=as1 (aV7 L read fin at_ body) (aJ1 (aV7 L read fin at_ body) L n) n:=by
   intro N u q1 q2 q3 q4;show _=if inM (aJ1 (aV7 L read fin at_ body) L n) (at_+n)=none/\L1 L read<=at_+n/\at_+n<L1 L read+(2048 - (L1 L read - read))/\(fin=0\/at_+n<fin)then ad0 1 (aT9 (at_+n) (Sy.Y4 body n)) (aJ1 (aV7 L read fin at_ body) L n)else aJ1 (aV7 L read fin at_ body) L n
   rw[if_pos ⟨q1,q2,q3,q4⟩];show ad0 1 [Value.int .i64 (J.i 2+J.i 3),Value.int .u8 (Sy.Y4 (J.s 0) (J.i 3))] (J.c 1)=_;rw[c1,e2,hn,es];rfl
  have skip:∀{N:Bn} {u},¬(inM (aJ1 (aV7 L read fin at_ body) L n) (at_+n)=none/\L1 L read<=at_+n/\at_+n<L1 L read+(2048 - (L1 L read - read))/\(fin=0\/at_+n<fin))->({ J.L5 N pB with u:=u }:Env).c 1=as1 (aV7 L read fin at_ body) (aJ1 (aV7 L read fin at_ body) L n) n:=by
   intro N u q;show _=if inM (aJ1 (aV7 L read fin at_ body) L n) (at_+n)=none/\L1 L read<=at_+n/\at_+n<L1 L read+(2048 - (L1 L read - read))/\(fin=0\/at_+n<fin)then ad0 1 (aT9 (at_+n) (Sy.Y4 body n)) (aJ1 (aV7 L read fin at_ body) L n)else aJ1 (aV7 L read fin at_ body) L n
   rw[if_neg q];exact c1
  have j3:∀{N:Bn} {u} (j:Nat),j≠3->({ J.L5 N pB with u:=u }:Env).i j=J.i j:=fun{N u} j hj=>by
   match j with
   | 0=>rfl
   | 1=>rfl
   | 2=>rfl
   | 3=>exact absurd rfl hj
   | j+4=>rfl
  have j3c:∀{N:Bn} {u} (j:Nat),j≠3->({ J.L5 N pBc with u:=u }:Env).i j=J.i j:=fun{N u} j hj=>by
   match j with
   | 0=>rfl
   | 1=>rfl
   | 2=>rfl
   | 3=>exact absurd rfl hj
   | j+4=>rfl
  refine⟨?_,?_,?_,?_,?_,?_,?_,trivial⟩;all_goals
   intro hpc;replace hpc:A6 J _:=hpc
  rotate_right
  .intro N a w' hM;have hge:¬J.i 3<(body.size:Int):=by
    have:=hpc.1;rw[y9,pI,A7]at this;have:¬J.i 3<((J.s 0).size:Int):=this;rw[es]at this;exact this
   have hmap:J.c 1=W8 L read fin at_ body:=by
    unfold W8;rw[hb,if_neg bA,c1];congr 1;omega
   show(puR f108).wp prog (Y7 prog [1,1,1,1] (y7 f108) (bodyPost prog f108 (F7 (ad8 w g gm L read fin at_ body ff)))) a w';refine aa2 (p:=[0,1,1]) (r:=pu2 prog f108) (T:=puU prog f108) rfl db1 (UI L read fin at_ body ff) (fun J I=>by rw[dw3];exact I.cx h hb) I.g (fun q hq=>by cases hq) ?_ ?_ hM
   .have ht:∀ b,(b=true↔ff=true/\fin=0/\L1 L read<=at_+body.size/\at_+(body.size:Int)<=L1 L read+(2048 - (L1 L read - read)))->b=aZ2 L read fin at_ body ff:=by
     intro b hb;unfold aZ2;cases b with
     | true=>
       obtain⟨q1,q2⟩:=hb.1 rfl;rw[q1,aD q2];rfl
     | false=>
       cases q:ff&&decide (fin=0/\L1 L read<=at_+body.size/\at_+(body.size:Int)<=L1 L read+(2048 - (L1 L read - read)))with
       | false=>rfl
       | true=>
         rw[m5,aB]at q;exact absurd (hb.2 q) bA
    have hQ:(u9 J qT).i=at_+(body.size:Int):=by show J.i 2+((J.s 0).size:Int)=_;rw[e2,es]
    have b0:=I.b0;refine⟨?_,?_,?_,?_,trivial⟩;all_goals
     intro hpc N u;replace hpc:A6 J _:=hpc;simp only[A6,A7,E5,A9,y9,G1,F0,A0,hQ,b0,e1,e5,and_true]at hpc;refine⟨I.g,I.f,I.i0,I.i1,I.i5,?_,ht _ ?_,hmap⟩
    .exact hQ
    .show decide ((u9 J qT).i<=J.i 6)=true↔_;rw[hQ,e6,aB];exact⟨fun q=>⟨hpc.2.2.1,hpc.2.1,hpc.1,q⟩,fun q=>q.2.2.2⟩
    .exact hQ
    .exact⟨fun q=>bK,fun q=>absurd q.2.2.1 hpc.1⟩
    .exact hQ
    .exact⟨fun q=>bK,fun q=>absurd q.2.1 hpc.1⟩
    .exact hQ
    .exact⟨fun q=>bK,fun q=>absurd q.1 hpc.1⟩
   .intro J2 I2 N2 a2 w2 M2;obtain⟨c,hc,hopd⟩:=db5;rw[hc];refine dq1 M2 hopd ?_ ?_
    .intro ht;have ht:aZ2 L read fin at_ body ff=true:=I2.b1.symm.trans ht;refine ag2 (B:=⟨J2,S2 g gm,w,bn2 g gm,4⟩) (sp:=[]) (p:=[1,0,0]) (r:=pu3 prog f108) I2.g (fun q hq=>by cases hq) rfl rfl db0 ⟨?_,trivial⟩ M2;intro _ N3 a3 w3 M3;exact dw0 hgl hgml h hb ht I2 M3
    .intro ht;have ht:aZ2 L read fin at_ body ff=false:=I2.b1.symm.trans ht;refine wp_skip ?_;have hV:∀ u,VI L read fin at_ body ff { J2.L5 N2 [.i 8 m8]with u:=u }:=fun u=>by
      refine⟨I2.g,I2.f,I2.i0,I2.i5,?_,I2.c1⟩;show J2.i 1=_;rw[I2.i1];unfold aF7;rw[hb,if_neg bA,if_neg fun c=>by rw[ht]at c;exact absurd c.1 bA]
     obtain⟨u,N3,M3⟩:=Sy.Md.aL7 M2 cf9 fun u=>(hV u).cx h
     exact cg4 h hb (hV u) M3
  all_goals
   intro N u;simp only[A6,A7,E5,A9,y9,hin,hP,F0,A0,e1,e5,e6,and_true]at hpc
  .exact next rfl j3c rfl rfl rfl (hlt hpc.2.2.2.2.2) (put (Classical.not_not.1 hpc.2.2.2.2.1) hpc.2.2.2.1 hpc.2.2.1 (.inr hpc.1))
  .exact next rfl j3 rfl rfl rfl (hlt hpc.2.2.2.2.2) (skip fun q=>q.2.2.2.elim (fun q=>hpc.2.1 q) (fun q=>hpc.1 q))
  .exact next rfl j3c rfl rfl rfl (hlt hpc.2.2.2.2) (put (Classical.not_not.1 hpc.2.2.2.1) hpc.2.2.1 hpc.2.1 (.inl hpc.1))
  .exact next rfl j3 rfl rfl rfl (hlt hpc.2.2.2) (skip fun q=>hpc.1 q.2.2.1)
  .exact next rfl j3 rfl rfl rfl (hlt hpc.2.2) (skip fun q=>hpc.1 q.2.1)
  .exact next rfl j3 rfl rfl rfl (hlt hpc.2) (skip fun q=>hpc.1 q.1)
 refine aH2 (B:=⟨J0,S2 g gm,w,bn2 g gm,4⟩) (sp:=[af8]) (p:=puP) (xs:=puA) (s:=bf9) (r:=pu0 prog f108) hgood (a91 rfl) rfl func108 rfl rfl db3 hM0 ?_ rfl;refine⟨?_,?_,?_,?_,?_,trivial⟩;all_goals
  intro hpc N a w1 hM;replace hpc:A6 J0 _:=hpc;simp only[A6,A7,E5,A9,y9,F0,A0,hgap,and_true]at hpc
 .refine bar ?_ 0 bA N a w1 hM;unfold aG7 Z3;rw[aD (p:=0<fin/\L1 L read=fin) ⟨hpc.2.1,hpc.1⟩,Bool.or_true]
 .refine main 1 cg2 ?_ N a w1 hM;unfold aG7 Z3;rw[aH (p:=0<fin/\L1 L read=fin) fun q=>hpc.1 q.2,Bool.or_false,decide_eq_false_iff_not];rintro(q|q)
  .exact hpc.2.2.2 q
  .exact hpc.2.2.1 q
 .refine main 2 cg1 ?_ N a w1 hM;unfold aG7 Z3;rw[aH (p:=0<fin/\L1 L read=fin) fun q=>hpc.1 q.1,Bool.or_false,decide_eq_false_iff_not];rintro(q|q)
  .exact hpc.2.2 q
  .exact hpc.2.1 q
 .refine bar ?_ 3 bA N a w1 hM;unfold aG7;rw[aD (show at_< -1152921504606846976\/1152921504606846976<at_ from .inr hpc.1)];rfl
 .refine bar ?_ 4 bA N a w1 hM;unfold aG7;rw[aD (show at_< -1152921504606846976\/1152921504606846976<at_ from .inl hpc)];rfl
end
end Go.Proofs.YtnlcpcmdlcakgaaGreat
