/- A part of the proof that a connection answers as the document says: Ch5 Ch6 Ch7. -/
import Derived.Test.YtnlcpcmdlcakgaaGreatKh46
set_option maxRecDepth 100000
set_option maxHeartbeats 4000000
set_option linter.unusedVariables false
set_option linter.unusedSimpArgs false
set_option linter.unusedSectionVars false
open Go.Proofs.Tryz
namespace Go.Proofs.YtnlcpcmdlcakgaaGreat
open Go.RowKit Sy
theorem Sy.RowT.eJ1{w w':World}{g c:Nat}{ty:TypeId}{lv:List Kd}{l:Rws}(h:RowT w g c ty lv l)(hk:c≠0->w'.heap[g]? =w.heap[g]?):RowT w' g c ty lv l:=
 ⟨fun hc=>by obtain⟨cur,q,r⟩:=h.row hc;exact⟨cur,(hk hc).trans q,r⟩,h.len,h.ok⟩
theorem Sy.RowT.dR6{w:World}{g c:Nat}{ty:TypeId}{lv:List Kd}{l:Rws}(h:RowT w g c ty lv l)(hc:c≠0):g<w.heap.size:=by
 obtain⟨cur,q,r⟩:=h.row hc;exact(show Blk w g ty cur.toList from q).lt
section
variable{w w':World}{g:Nat}{X:Cs}
theorem PcW.ec7{a:Pa}(W:PcW w g a X)(hk:∀ i∈X4 a g X.c.has,w'.heap[i]? =w.heap[i]?):PcW w' g a X:=by
 have m0:∀ i,i∈a.Fo++(a.t::((if X.c.has then [a.i,a.w]else [])++(if a.cr=0 then []else [a.r])))->i∈X4 a g X.c.has:=fun i h=>aj _ h
 have m1:∀ i,i∈(if X.c.has then [a.i,a.w]else [])++(if a.cr=0 then []else [a.r])->i∈X4 a g X.c.has:=fun i h=>m0 i (aV _ (aj _ h))
 obtain⟨k,m,h1,h2⟩:=W.tm;refine⟨(hk g (ae ..)).trans W.root,W.out.dJ0 fun i hi=>hk i (m0 i (aX _ hi)),⟨k,m,(hk a.t (m0 _ (aV _ (ae ..)))).trans h1,h2⟩,fun q=>(W.inq q).eK9 (hk _ (m1 _ (aX _ ?_))),fun q=>(hk a.w (m1 _ (aX _ ?_))).trans (W.win q),W.tab.eJ1 fun hc=>hk _ (m1 _ (aV _ ?_)),W.nd⟩
 .rw[if_pos q];exact ae ..
 .rw[if_pos q];exact aj _ (ae ..)
 .rw[if_neg hc];exact ae ..
theorem PcW.lt{a:Pa}(W:PcW w g a X):∀ i∈X4 a g X.c.has,i<w.heap.size:=by
 intro i hi;unfold X4 at hi;rcases aa.1 hi with rfl|hi
 .exact W.root.lt
 rcases aC.1 hi with hi|hi
 .exact W.out.lt i hi
 rcases aa.1 hi with rfl|hi
 .obtain⟨k,m,h1,h2⟩:=W.tm;exact h1.lt
 rcases aC.1 hi with hi|hi
 .split at hi
  .rename_i q;rcases aa.1 hi with rfl|hi
   .exact(W.inq q).lt
   .rw[ah.1 hi];exact(W.win q).lt
  .cases hi
 .split at hi
  .cases hi
  .rename_i hc;rw[ah.1 hi];exact W.tab.dR6 hc
theorem DcW.ee1{a:Da}(W:DcW w g a X)(hk:∀ i∈Y8 a g X.c.has,w'.heap[i]? =w.heap[i]?):DcW w' g a X:=by
 have m0:∀ i,i∈(if X.c.has then a.Fi++[a.w]else [])++(if a.cr=0 then []else [a.r])->i∈Y8 a g X.c.has:=fun i h=>aj _ (aj _ h)
 obtain⟨h1,h2⟩:=W.tm;refine⟨(hk g (ae ..)).trans W.root,⟨(hk a.t (aj _ (ae ..))).trans h1,h2⟩,fun q=>(W.inq q).eJ9 fun i hi=>hk i (m0 i (aX _ ?_)),fun q=>(hk a.w (m0 _ (aX _ ?_))).trans (W.win q),W.tab.eJ1 fun hc=>hk _ (m0 _ (aV _ ?_)),W.nd⟩
 .rw[if_pos q];exact aX _ hi
 .rw[if_pos q];exact aV _ (ae ..)
 .rw[if_neg hc];exact ae ..
theorem DcW.lt{a:Da}(W:DcW w g a X):∀ i∈Y8 a g X.c.has,i<w.heap.size:=by
 intro i hi;unfold Y8 at hi;rcases aa.1 hi with rfl|hi
 .exact W.root.lt
 rcases aa.1 hi with rfl|hi
 .exact W.tm.1.lt
 rcases aC.1 hi with hi|hi
 .split at hi
  .rename_i q;rcases aC.1 hi with hi|hi
   .exact(W.inq q).lt i hi
   .rw[ah.1 hi];exact(W.win q).lt
  .cases hi
 .split at hi
  .cases hi
  .rename_i hc;rw[ah.1 hi];exact W.tab.dR6 hc
theorem PcP.ec8{F:List Nat}(h:PcP w g F X)(hk:∀ i∈F,w'.heap[i]? =w.heap[i]?):PcP w' g F X:=by
 obtain⟨a,W,rfl⟩:=h;exact⟨a,W.ec7 hk,rfl⟩
theorem PcP.lt{F:List Nat}(h:PcP w g F X):g∈F/\∀ i∈F,i<w.heap.size:=by
 obtain⟨a,W,rfl⟩:=h;exact⟨ae ..,W.lt⟩
theorem DcP.ee2{F:List Nat}(h:DcP w g F X)(hk:∀ i∈F,w'.heap[i]? =w.heap[i]?):DcP w' g F X:=by
 obtain⟨a,W,rfl⟩:=h;exact⟨a,W.ee1 hk,rfl⟩
theorem DcP.lt{F:List Nat}(h:DcP w g F X):g∈F/\∀ i∈F,i<w.heap.size:=by
 obtain⟨a,W,rfl⟩:=h;exact⟨ae ..,W.lt⟩
end
def ar0(h:Nat)(X:Cs):Rws:=[.int .i64 (h:Int)]::K9 X.c::[.int .i64 (X.L.length:Int)]::(X.L++Y3 X.R)
def eC6(r:Rws):Cs:=⟨R7 (r.getD 1 []),(r.drop 3).take (z9 (r.getD 2 []) 0).toNat,rsL ((r.drop 3).drop (z9 (r.getD 2 []) 0).toNat)⟩
theorem b02(h:Nat)(X:Cs):eC6 (ar0 h X)=X:=by
 obtain⟨c,L,R⟩:=X;show Cs.mk (R7 (K9 c)) ((L++Y3 R).take ((L.length:Int)).toNat) (rsL ((L++Y3 R).drop ((L.length:Int)).toNat))=_;rw[U7,aK,List.take_left',List.drop_left',A4]<;>rfl
structure Both(w:World)(g h:Nat)(F:Nat->Prop)(X:Cs)(F1 F2:List Nat):Prop where
 p:PcP w g F1 X
 d:DcP w h F2 X
 ne:∀ i∈F1,i∉F2
 F:∀ i,F i↔(i∈F1\/i∈F2)
def bg1:Thing where
 P:=fun w g F c=>∃ F1 F2 h,z9 (c.headD []) 0=((h:Nat):Int)/\Both w g h F (eC6 c) F1 F2
 keep:=fun⟨F1,F2,h,e,B⟩ hk=>⟨F1,F2,h,e,B.p.ec8 fun i hi=>hk i ((B.F i).2 (.inl hi)),B.d.ee2 fun i hi=>hk i ((B.F i).2 (.inr hi)),B.ne,B.F⟩
 lt:=fun⟨F1,F2,h,e,B⟩ i hi=>((B.F i).1 hi).elim (B.p.lt.2 i) (B.d.lt.2 i)
 root:=fun⟨F1,F2,h,e,B⟩=>(B.F _).2 (.inl B.p.lt.1)
theorem a72{w:World}{g h:Nat}{F:Nat->Prop}{X:Cs}{c:Rws}(hc:c=ar0 h X):bg1.P w g F c↔∃ F1 F2,Both w g h F X F1 F2:=by
 subst hc;constructor
 .rintro⟨F1,F2,k,e,B⟩;have e':((h:Nat):Int)=((k:Nat):Int):=e;obtain rfl:h=k:=by omega
  rw[b02]at B;exact⟨F1,F2,B⟩
 .rintro⟨F1,F2,B⟩;exact⟨F1,F2,h,rfl,by rw[b02];exact B⟩
def dM2(s:Sy.St):List SV->Option Did
 | [.one (.c (.ptr 0 0)), .one (.c (.opq 1)), .one (.agg l)]=>match ay9 s 0 with
   | some (ty,fl,0,true, .cv 0)=>if Nat.beq ty 72&&ap1 l xC then some ⟨[],[],[],[], .one (.c (.bool l6)),[],some (ownB 0 s.nx 0 72 (.cv 101))⟩else none
   | _=>none
 | _=>none
def eA3:Sy.Spec:=R4 7 dM2
theorem dd4{J:Env}(hO:J.o 0=bg1){h:Nat}(hv:J.v 1= .pointer (some ⟨h,0,none⟩)){X X':Cs}(h0:J.c 0=ar0 h X)(h1:J.c 101=ar0 h X'){cs:List Value}(hcs:∀ N,A5 J N xC=cs)(hs:bd8 X X' cs):eA3.Ok prog J:=by
 refine U1 fun{s xs d} hsel hc hm {N w} hb hne=>?_
 unfold dM2 at hsel;split at hsel
 .rename_i l;split at hsel
  .rename_i ty fl hg;split at hsel
   .rename_i hq;rw[m5]at hq;have hty:=af hq.1;have hl:=az5 hq.2;subst hty hl;injection hsel with hsel;subst hsel;obtain⟨hmem,hlt⟩:=ak6 hg;refine⟨aG5 _,?_⟩;have hB:(J.o 0).P w (N 0) (fun i=>(N fl).testBit i=true) (J.c 0):=hb _ hmem;rw[hO]at hB;obtain⟨F1,F2,B⟩:=(a72 h0).1 hB;obtain⟨⟨a,W,rfl⟩,⟨d,V,rfl⟩,hd,hF⟩:=B;have e:([SV.one (.c (.ptr 0 0)), .one (.c (.opq 1)), .one (.agg xC)].map (SV.A1 J N)).toArray=#[.pointer (some ⟨N 0,0,none⟩), .pointer (some ⟨h,0,none⟩), .agg cs.toArray]:=by
     show #[Value.pointer (some ⟨N 0,0,none⟩),J.v 1, .agg (A5 J N xC).toArray]=_;rw[hv,hcs]
    rw[e];refine(hs w (N 0) h a d W V hd).mono ?_;rintro e w' ⟨v,rfl,rfl,F,G,hP,hD,hn,ho,f1,f2⟩;refine⟨E8 N s.nx (X3 (F++G)),rfl,au0 (l:=0) (fl:=fl) (n:=s.nx) (j:=0) (ty:=72) (t:= .cv 0) (t':= .cv 101) hlt (aI _) hmem (F:=X4 a (N 0) X.c.has++Y8 d h X.c.has) (F':=F++G) (fun i=>by rw[hF,aC]) ?_ (ho.aj6 fun i _ hi=>aC.2 hi) (fun i hi=>?_)⟩
    .rw[hO];exact(a72 h1).2 ⟨F,G,hP,hD,hn,fun i=>aC⟩
    .rcases aC.1 hi with q|q
     .exact(f1 i q).imp aC.2 id
     .exact(f2 i q).imp aC.2 id
   .cases hsel
  .cases hsel
 .cases hsel
structure Lk where
 n:Nat
 x0:Nat
 xc:Nat
 xd:Nat
 vx:Nat
 vl:Nat
 vi:Nat
 d1:Nat
 d2:Nat
 d3:Nat
 p:List Nat
def lkS(K:Lk):Sy.St:=⟨ar2 K.n fun i=>if i=K.x0 then some (.one (.c (.opq 0)))else if i=K.xc then some qc9 else if i=K.xd then some (.one (.c (.opq 1)))else none,[ownB 0 4 0 72 j8],⟨[],[]⟩,70⟩
def cO4:List Bd:=[⟨.iv 0,0,549755813888⟩,⟨.iv 1,0,549755813888⟩]
def lkT(K:Lk):Sy.St:=⟨ar2 K.n fun i=>if i=K.xc then some qc9 else if i=K.xd then some (.one (.c (.opq 1)))else if i=K.vx then some (.one (.c (.opq 0)))else if i=K.vl then some qdz else if i=K.vi then some (.one (.c (.int .i64 j9)))else none,[ownB 0 4 0 72 j8],⟨cO4,[]⟩,70⟩
def lkX(P:Program)(fn:Func)(K:Lk):Sy.St:=ba2 P fn K.p (lkT K) 0 200 K.d1 K.d2 K.d3
def lkC:Cx:=⟨cO4,[.lt j9 m8]⟩
def eA6(P:Program)(fn:Func)(K:Lk):Rs:=R6 P [eA3] 10 400 0 (.code (aft .normal aP0 (aF9 fn K.p))) { lkX P fn K with cx:=lkC }
def lkF(K:Lk):Nat->Option SV:=fun i=>if i=K.xc then some qc9 else if i=K.xd then some (.one (.c (.ptr 20 0)))else none
def lkE(K:Lk)(has:Bool):Sy.St:=⟨ar2 K.n (lkF K),cM8 has,⟨[⟨L7 s7,0,1759218604000⟩],[]⟩,40⟩
def eP8(P:Program)(fn:Func)(K:Lk)(has:Bool):Rs:=R6 P (bh0 has has) 10 400 40 (.code (aft .normal (K.p++[1]) (y7 fn))) (lkE K has)
def eR6(P:Program)(fn:Func):Lf->Bool
 | .must _ _=>false
 | .out (.exit _) _=>false
 | .out _ s=>bQ5 (aD7 P s fn.results.toList)
def dO9(P:Program)(fn:Func):Rs->Bool
 | .ok l=>l.all (eR6 P fn)
 | .error _=>false
structure LkOk(fn:Func)(K:Lk):Prop where
 code:SaysCode prog fn K.p (lkT K) 0 200 K.x0 K.vx K.vl K.vi K.d1 K.d2 K.d3
 in_:(aA1 0 (lkT K) (b38 (lkS K) K.vx K.vl K.vi)).map noU=some [.i 0 i9]
 tm:((lkS K).tm[K.x0]?,((lkS K).put (some K.vx) (.one (.c (.opq 0)))).tm[K.vx]?)=(some (.one (.c (.opq 0))),some (.one (.c (.opq 0))))
 okP:okP K.p (y7 fn)=true
 op:shR 0 (some (lkT K)) (eA6 prog fn K)=some [.back [.i 0 (.add j9 l9), .c 0 (.cv 101)] [.lt j9 m8]]
 low:cR9 100 (lkX prog fn K)=true
 fin:((I1 (aF1 prog fn K.p (lkT K) 0) 1).tm.length,(I1 (aF1 prog fn K.p (lkT K) 0) 1).tm[K.xc]?,(I1 (aF1 prog fn K.p (lkT K) 0) 1).tm[K.xd]?,(I1 (aF1 prog fn K.p (lkT K) 0) 1).hp)=(K.n,some qc9,some (.one (.c (.opq 1))),[ownB 0 4 0 72 j8])
 ne:K.xc≠K.x0/\K.xd≠K.x0/\K.xd≠K.xc
 end_:∀ has,dO9 prog fn (eP8 prog fn K has)=true
theorem cG6{n:Nat}{f:Nat->Option SV}{J:Env}{N:Bn}{a:Act}(hsz:a.tmps.size=n)(hd:a.defers=[])(hf:∀ i v,i<n->f i=some v->a.tmps[i]? =some (v.A1 J N))(hu:∀ i,J.u i=a.tmps.getD i (.bool false)):a=⟨((ar2 n f).map (SV.A1 J N)).toArray,[]⟩:=by
 obtain⟨t,d⟩:=a;subst hd;have e:t=((ar2 n f).map (SV.A1 J N)).toArray:=by
  apply Array.ext
  .simp[ar2,hsz]
  .intro i h1 h2;have hi:i<n:=by rw[<-hsz];exact h1
   simp only[ar2,List.getElem_toArray,List.getElem_map,List.getElem_range];cases q:f i with
   | none=>
     show _=J.u i;rw[hu i];simp[Array.getD,h1]
   | some v=>
     have:=hf i v hi q;rw[Array.getElem?_eq_getElem h1]at this;injection this
 rw[e]
theorem eP1{J:Env}{X:Cs}(h:J.c 6=(X.c.aB3 X.L X.R).map sgR)(N:Bn)(m:Nat):(SV.one (.c (.slt m 13 i9 (L7 s7) i9))).A1 J N=aC9 (N m) (N (m+1)) (X.c.aB3 X.L X.R).length:=by
 show C.G2 _ N (.slt m 13 i9 (L7 s7) i9)=_;rw[aE6];have e6:(u9 J (L7 s7)).i.toNat=(X.c.aB3 X.L X.R).length:=by
  show(((J.c 6).length:Nat):Int).toNat=_;rw[aK,h,aE]
 rw[e6];exact aD2 _ _ _ _
structure LkI(vs:Value)(h:Nat)(len:Nat)(J:Env):Prop where
 g:J.R8
 v:J.v 0=vs
 v1:J.v 1= .pointer (some ⟨h,0,none⟩)
 o:J.o 0=bg1
 i0:0<=J.i 0
 le:J.i 0<=J.i 1
 i1:J.i 1=(len:Int)
 X:∃ X,J.c 0=ar0 h X/\Iv X (J.i 0)
theorem cO3{J:Env}{len:Nat}(h0:0<=J.i 0)(h1:J.i 0<=J.i 1)(h2:J.i 1=(len:Int))(hl:len<=549755813888):X5 J cO4:=
 Z6 ⟨⟨h0,by show J.i 0<=549755813888;omega⟩,⟨by show 0<=J.i 1;omega,by show J.i 1<=549755813888;omega⟩,trivial⟩
def eP7(u:Nat->Value)(vs:Value)(h len:Nat)(X:Cs):Env:= { U9 [0,(len:Int)] [] [] [vs, .pointer (some ⟨h,0,none⟩)]with u:=u,o:=fun _=>bg1,c:=fun _=>ar0 h X }
theorem dd7{fn:Func}{K:Lk}(H:LkOk fn K){w w1:World}{a:Option Addr}{len cap:Nat}(o:Opened V3 w a len cap)(hl:len<=549755813888){g h:Nat}{X:Cs}(hX:Iv X 0){F1 F2:List Nat}(hP:PcP w1 g F1 X)(hD:DcP w1 h F2 X)(hne:∀ i∈F1,i∉F2)
 (f1:∀ i∈F1,w.heap.size<=i) (f2:∀ i∈F2,w.heap.size<=i) (ho:Only (fun _=>False) w w1) {ac:Act} (hsz:ac.tmps.size=K.n) (hdf:ac.defers=[]) (s0:ac.tmps[K.x0]? =some (.slice a len cap)) (s1:ac.tmps[K.xc]? =some (.pointer (some ⟨g,0,none⟩))) (s2:ac.tmps[K.xd]? =some (.pointer (some ⟨h,0,none⟩))):
 (Sy.I9 K.p (y7 fn)).wp prog (Y7 prog K.p (y7 fn) (bodyPost prog fn (F7 fun v w'=>v= .bool true/\Below w.heap.size w w'))) ac w1:=by
 obtain⟨C,_,hC0⟩:=dh6 o;have hC:∀ i,i<len->∃ b off cap',Value.slice a len cap= .slice (some ⟨b,off,none⟩) len cap'/\T5 V3 (C i)/\w.rangeAt b (off+i*45) (C i):=by
  rcases hC0 with rfl|⟨b,off,rfl,_,hC⟩
  .intro i hi;omega
  .exact fun i hi=>⟨b,off,cap,rfl,(hC i hi).1,(hC i hi).2⟩
 obtain⟨n1,n2,n3⟩:=H.ne;obtain⟨t1,t2⟩:=Prod.mk.inj H.tm;have hfin:=H.fin;simp only[Prod.mk.injEq]at hfin;obtain⟨e1,e2,e3,e4⟩:=hfin;have hB:Both w1 g h (fun i=>i∈F1++F2) X F1 F2:=⟨hP,hD,hne,fun i=>aC⟩
 let J0:Env:=eP7 (fun i=>ac.tmps.getD i (.bool false)) (.slice a len cap) h len X
 let N0:Bn:=fun l=>if l=0 then g else X3 (F1++F2)
 have hM0:Md J0 (fun _=>False) w (fun _=>0) 0 (lkS K) N0 ac w1:=by
  refine⟨cG6 hsz hdf (fun i v _ hv=>?_) (fun i=>rfl),fun b hb=>?_,fun x hx y hy hxy=>?_,fun b hb _ _ k hk=> .inr ?_,cxP trivial trivial,ho,fun l hl=>absurd hl (Nat.not_lt_zero l)⟩
  .split at hv
   .rename_i q;injection hv with hv;subst hv;rw[q];exact s0
   .split at hv
    .rename_i q;injection hv with hv;subst hv;rw[q];exact s1
    .split at hv
     .rename_i q;injection hv with hv;subst hv;rw[q];exact s2
     .cases hv
  .rw[ah.1 hb];show bg1.P w1 g (fun i=>(X3 (F1++F2)).testBit i=true) (ar0 h X);rw[ai4];exact(a72 rfl).2 ⟨F1,F2,hB⟩
  .rw[ah.1 hx,ah.1 hy]at hxy;exact absurd rfl hxy
  .rw[ah.1 hb]at hk;have:=(ao7 (j:=0) (ty:=72) (t:= .cv 0) (F:=F1++F2) (N:=N0) (l:=0) (fl:=4) rfl (aX _ hP.lt.1) k).1 hk;exact(aC.1 this).elim (f1 k) (f2 k)
 have hI:∀ J,LkI (.slice a len cap) h len J->J.R8/\J.v 0= .slice a len cap/\0<=J.i 0/\J.i 0<=J.i 1/\J.i 1=(len:Int):=fun J I=>⟨I.g,I.v,I.i0,I.le,I.i1⟩
 refine co2 H.code (a0:=a) (cap:=cap) (I:=LkI (.slice a len cap) h len) (fun g _ h=>h) hC hI ?_ ?_ (show J0.v 0= .slice a len cap from rfl) (show J0.i 1=(len:Int)from rfl) t1 t2 H.okP ?_ hM0
 .intro J I hlt cs hcs u N ac w1 hM Q;obtain⟨X,hc,hx⟩:=I.X;have hi0:=I.i0;have hi1:=I.i1;obtain⟨X',hx',hs⟩:=cu5 hx I.i0 U hcs;have M1:=Sy.Md.wc hM 100 (fun _=>ar0 h X') H.low;obtain⟨J1,hJ1⟩:∃ x,Env.wc { J.hi 100 cs with u:=u } 100 (fun _=>ar0 h X')=x:=⟨_,rfl⟩;rw[hJ1]at M1;have c0:J1.c 0=ar0 h X:=by rw[<-hJ1];exact hc
  have c1:J1.c 101=ar0 h X':=by rw[<-hJ1];rfl
  have j0:J1.i 0=J.i 0:=by rw[<-hJ1];rfl
  have j1:J1.i 1=J.i 1:=by rw[<-hJ1];rfl
  have gg:J1.R8:=by rw[<-hJ1];exact I.g
  have v0:J1.v 0= .slice a len cap:=by rw[<-hJ1];exact I.v
  have v1:J1.v 1= .pointer (some ⟨h,0,none⟩):=by rw[<-hJ1];exact I.v1
  have o0:J1.o 0=bg1:=by rw[<-hJ1];exact I.o
  have hden:∀ N,A5 J1 N xC=cs:=fun N=>by
   rw[<-hJ1];show A5 (Env.hi { J with u:=u,c:=fun n=>if n<100 then J.c n else ar0 h X' } 100 cs) N xC=cs;exact ap6 hcs (fun i x hx=>by rw[Nat.zero_add];exact hx)
  have hbs:X5 J1 cO4:=cO3 (by rw[j0];exact I.i0) (by rw[j0,j1];exact I.le) (j1.trans I.i1) hl;have M2:Md J1 (fun _=>False) w (fun _=>0) 0 { lkX prog fn K with cx:=lkC } N ac w1:=⟨M1.act,M1.hp,M1.ne,M1.may,⟨hbs,fun t ht=>by rw[ah.1 ht,A7];show J1.i 0<J1.i 1;rw[j0,j1];exact hlt⟩,M1.only,M1.old⟩;refine co8 .normal (r:=eA6 prog fn K) rfl H.op (I:=LkI (.slice a len cap) h len) (fun J I=>⟨cO3 I.i0 I.le I.i1 hl,fun t ht=>by cases ht⟩) gg (fun q hq=>by rw[ah.1 hq];exact dd4 o0 v1 c0 c1 hden hs) ⟨?_,trivial⟩ M2;intro _ N u';refine⟨⟨gg,v0,v1,o0,?_,?_,?_,X',c1,?_⟩,?_⟩
  .show 0<=J1.i 0+1;omega
  .show J1.i 0+1<=J1.i 1;omega
  .exact j1.trans I.i1
  .show Iv X' (J1.i 0+1);rw[j0];exact hx'
  .show(J1.i 1 - (J1.i 0+1)).toNat<(J.i 1 - J.i 0).toNat;omega
 .intro J I he N ac w2 hM;obtain⟨X,hc,hx⟩:=I.X;have hi1:=I.i1;have hk:J.i 0<=1099511627760:=by omega
  have hmem:ownB 0 4 0 72 j8∈(I1 (aF1 prog fn K.p (lkT K) 0) 1).hp:=by rw[e4];exact ae ..
  have hB:(J.o 0).P w2 (N 0) (fun i=>(N 4).testBit i=true) (J.c 0):=hM.hp _ hmem;rw[I.o]at hB;obtain⟨F1,F2,B⟩:=(a72 hc).1 hB;obtain⟨⟨pa,W,rfl⟩,⟨da,V,rfl⟩,hd,hF⟩:=B;have hfr:∀ i,(i∈X4 pa (N 0) X.c.has\/i∈Y8 da h X.c.has)->w.heap.size<=i:=fun i hi=>(hM.may _ hmem rfl (.inl rfl) i (.inr ⟨rfl,(hF i).2 hi⟩)).elim (fun q=>q.elim) id
  have hout:X.c.aN5.has=X.c.has:=by
   unfold Cn.aN5;split
   .rfl
   .rw[(aG8 _).2];show X.c.aK9.has=_;rw[Cn.bl9,(Cn.Like.goC hx.r.r25.1 _ (Cn.Like.bV0 hx.r.d3 hx.r.r21.1) (aI _)).e]
  have iv:=(hx.out I.i0 U);obtain⟨X',hX'⟩:∃ X':Cs,(⟨X.c.aN5,X.L,[]⟩:Cs)=X':=⟨_,rfl⟩;have hh':X'.c.has=X.c.has:=by rw[<-hX'];exact hout
  rw[hX']at iv;obtain⟨J1,hJ1⟩:∃ x:Env,{ stE X X' 0 0 false K4 (X.c.aB3 X.L X.R) []with u:=fun i=>ac.tmps.getD i (.bool false) } =x:=⟨_,rfl⟩;have rw0:RwA J1 0 X:=by rw[<-hJ1];exact⟨rfl,rfl,rfl⟩
  have rw3:RwA J1 3 X':=by rw[<-hJ1];exact⟨rfl,rfl,rfl⟩
  have hcx:Cx.ok J1 ⟨[⟨L7 s7,0,1759218604000⟩],[]⟩:=by
   rw[<-hJ1];refine cxP ⟨?_,trivial⟩ trivial;show(0:Int)<=(((X.c.aB3 X.L X.R).map sgR).length:Int)/\(((X.c.aB3 X.L X.R).map sgR).length:Int)<=1759218604000;have:=bx7 hx hk;rw[aE];omega
  have hgf:J1.R8/\J1.f=cnF/\J1.o=cnO:=by rw[<-hJ1];exact⟨fun i=>rfl,rfl,rfl⟩
  have M:=dL3 hgf.2.1 hgf.2.2 rw0 rfl W V hd hcx;have c6:J1.c 6=(X.c.aB3 X.L X.R).map sgR:=by rw[<-hJ1];rfl
  have i12:J1.i 12=X'.c.am6 X'.L:=by rw[<-hJ1];rfl
  have sp:∀ q∈bh0 X.c.has X'.c.has,q.Ok prog J1:=ay5 hgf.2.1 hgf.2.2 rw0 rw3 i12 iv hk (fv:=fun go co=>aC9 go co (X.c.aB3 X.L X.R).length) c6 (eP1 c6) (fun W N=>by rw[<-hX'];exact bm9 W (hx.oa hk)) (fun W N=>by rw[<-hX'];exact bY6 W (hx.da hk));rw[hh']at sp;have hact:ac=⟨((ar2 K.n (lkF K)).map (SV.A1 J1 (prB (N 0) pa h da))).toArray,[]⟩:=by
   have hsz:ac.tmps.size=K.n:=by rw[hM.act,<-e1];simp
   have hat:∀(i:Nat) (x:SV),(I1 (aF1 prog fn K.p (lkT K) 0) 1).tm[i]? =some x->ac.tmps[i]? =some (SV.A1 J N x):=fun i x hx=>by rw[hM.act,bi,bn,hx];rfl
   refine cG6 hsz (by rw[hM.act]) (fun i v _ hv=>?_) (fun i=>by rw[<-hJ1]);unfold lkF at hv;split at hv
   .rename_i q;injection hv with hv;subst hv;rw[q,hat _ _ e2];show some (Value.pointer (some ⟨N 0,0,none⟩))=some (Value.pointer (some ⟨prB (N 0) pa h da 0,0,none⟩));rw[cM9]
   .split at hv
    .rename_i q;injection hv with hv;subst hv;rw[q,hat _ _ e3];show some (J.v 1)=some (Value.pointer (some ⟨prB (N 0) pa h da 20,0,none⟩));rw[a29,I.v1]
    .cases hv
  have M2:Md J1 (fun _=>False) w (prB (N 0) pa h da) 40 (lkE K X.c.has) (prB (N 0) pa h da) ac w2:=⟨hact,M.hp,M.ne,fun b hb hr hb' k hk=> .inr ((M.may b hb hr hb' k hk).elim (fun q=>hfr k q) fun q=>bu hM.only.size q),hcx,hM.only,fun _ _=>rfl⟩
  have hrun:=H.end_ X.c.has;unfold dO9 at hrun;split at hrun
  .rename_i l hl;refine bd6 (B:=⟨J1,fun _=>False,w,prB (N 0) pa h da,40⟩) hgf.1 sp rfl .normal (K.p++[1]) (y7 fn) _ 400 (lkE K X.c.has) l hl (bk6 (bm1 fun x hx=>?_)) (prB (N 0) pa h da) ac w2 M2;have hx:=av.1 hrun x hx;have key:∀ s:Sy.St,bQ5 (aD7 prog s fn.results.toList)=true->aD7 prog s fn.results.toList=some qaa /\∀ N' a' w',Md J1 (fun _=>False) w (prB (N 0) pa h da) 40 s N' a' w'->(SV.one (.c (.bool l6))).A1 J1 N'= .bool true/\Below w.heap.size w w':=fun s q=>⟨bh1 q,fun N' a' w' hM=>⟨rfl,Sy.Only.R9 hM.only⟩⟩
   cases x with
   | must t s=>cases hx
   | out e s=>
     cases e with
     | exit n=>cases hx
     | normal=>obtain⟨q1,q2⟩:=key s hx;unfold Lf.ag4;simp only;rw[q1];exact q2
     | ret=>obtain⟨q1,q2⟩:=key s hx;unfold Lf.ag4;simp only;rw[q1];exact q2
  .cases hrun
 .intro N ac w1 hM;obtain⟨u,N',hM5⟩:=Sy.Md.aL7 hM H.in_ fun u=>⟨cO3 (aF 0) (by show(0:Int)<=(len:Int);omega) rfl hl,fun t ht=>by cases ht⟩
  exact⟨_,N',⟨fun i=>(by rcases i with _|_|i<;>rfl),rfl,rfl,rfl,aF 0,(by show(0:Int)<=(len:Int);omega),rfl,X,rfl,hX⟩,hM5⟩
def cL2(s:Sy.St)(K:Lk):Nat × Option SV × Option SV × Option SV:=(s.tm.length,s.tm[K.x0]?,s.tm[K.xc]?,s.tm[K.xd]?)
def bP5(r:Option Cr):Option (List Tm × Tm × Tm × Bool × List Tm × List Nat):=r.map fun rd=>(rd.ts,rd.L,rd.R,rd.has,rd.ms,rd.drops)
theorem cD9{r:Option Cr}{ts:List Tm}{L R:Tm}{has:Bool}{ms:List Tm}{drops:List Nat}(h:bP5 r=some (ts,L,R,has,ms,drops)):∃ rd,r=some rd/\rd.ts=ts/\rd.L=L/\rd.R=R/\rd.has=has/\rd.ms=ms/\rd.drops=drops:=by
 obtain⟨rd,e,q⟩:=aw.1 h;simp only[Prod.mk.injEq]at q;exact⟨rd,e,q⟩
theorem by6{fn:Func}{K:Lk}(H:LkOk fn K){w:World}{a:Option Addr}{len cap:Nat}(o:Opened V3 w a len cap)(hl:len<=549755813888){J:Env}(hO:J.o=cnO)(hv:J.v 0= .slice a len cap){N0 N:Bn}{n0:Nat}{s:Sy.St}{ac:Act}{w1:World}
 (hM:Md J (fun _=>False) w N0 n0 s N ac w1) {lc ld:Nat} (ht:cL2 s K=(K.n,some (.one (.c (.opq 0))),some (.one (.c (.ptr lc 0))),some (.one (.c (.ptr ld 0)))))
 {ts us:List Tm} {L L' R R':Tm} {has:Bool} {dr ds:List Nat} (h1:bP5 (crP ⟨[],s.hp,s.cx,s.nx⟩ lc)=some (ts,L,R,has,[],dr)) (h2:bP5 (crD ⟨[],s.hp,s.cx,s.nx⟩ ld)=some (us,L',R',has,[],ds))
 (hno:((lc::dr).all fun x=> !(aS3 x (ld::ds)))=true) {X:Cs} (hX:Iv X 0) (hh:X.c.has=has) (c1:∀{w:World} {g:Nat} {a:Pa},PcW w g a ⟨cnT J ts,(u9 J L).c,rsL (u9 J R).c⟩->PcW w g a X) (c2:∀{w:World} {g:Nat} {a:Da},DcW w g a ⟨cnT J us,(u9 J L').c,rsL (u9 J R').c⟩->DcW w g a X):
 (Sy.I9 K.p (y7 fn)).wp prog (Y7 prog K.p (y7 fn) (bodyPost prog fn (F7 fun v w'=>v= .bool true/\Below w.heap.size w w'))) ac w1:=by
 obtain⟨r,hr,t1,t2,t3,t4,t5,t6⟩:=cD9 h1;obtain⟨q,hq,u1,u2,u3,u4,u5,u6⟩:=cD9 h2;obtain⟨pa,K1⟩:=bY9 hO hr hM.cx (by rw[t5];intro t ht;cases ht) hM.hp hM.ne;obtain⟨da,K2⟩:=bZ0 hO hq hM.cx (by rw[u5];intro t ht;cases ht) hM.hp hM.ne;have W:=K1.W;rw[t1,t2,t3]at W;have V:=K2.W;rw[u1,u2,u3]at V;have W:=c1 W;have V:=c2 V;have e1:r.has=X.c.has:=t4.trans hh.symm;have e2:q.has=X.c.has:=u4.trans hh.symm;have b1:∀ i∈X4 pa (N lc) X.c.has,∃ b∈s.hp,b.l∈lc::dr/\b.rw=true/\b.G0 N/\fp N b i:=fun i hi=>by
  rcases K1.cov i (by rw[e1];exact hi)with rfl|⟨b,hb,hm,hw,hr,hf⟩
  .obtain⟨b,hb,hl,hn,_,hw⟩:=K1.root;exact⟨b,hb,by rw[hl];exact ae ..,hw, .inl hn,by rw[<-hl];exact I4 N b⟩
  .exact⟨b,hb,aj _ (aE0.1 (by rw[<-t6];exact hm)),hw,hr,hf⟩
 have b2:∀ i∈Y8 da (N ld) X.c.has,∃ b∈s.hp,b.l∈ld::ds/\b.rw=true/\b.G0 N/\fp N b i:=fun i hi=>by
  rcases K2.cov i (by rw[e2];exact hi)with rfl|⟨b,hb,hm,hw,hr,hf⟩
  .obtain⟨b,hb,hl,hn,_,hw⟩:=K2.root;exact⟨b,hb,by rw[hl];exact ae ..,hw, .inl hn,by rw[<-hl];exact I4 N b⟩
  .exact⟨b,hb,aj _ (aE0.1 (by rw[<-u6];exact hm)),hw,hr,hf⟩
 have no:∀ x∈lc::dr,∀ y∈ld::ds,x≠y:=fun x hx y hy e=>by
  have:=av.1 hno x hx;rw[e,aE0.2 hy]at this;cases this
 unfold cL2 at ht;simp only[Prod.mk.injEq]at ht;obtain⟨m1,m2,m3,m4⟩:=ht;have hat:∀(i:Nat) (x:SV),s.tm[i]? =some x->ac.tmps[i]? =some (SV.A1 J N x):=fun i x hx=>by rw[hM.act,bi,bn,hx];rfl
 refine dd7 H o hl hX (g:=N lc) (h:=N ld) ⟨pa,W,rfl⟩ ⟨da,V,rfl⟩ (fun i hi hj=>?_) (fun i hi=>?_) (fun i hi=>?_) hM.only (by rw[hM.act,<-m1];simp) (by rw[hM.act]) ?_ (hat _ _ m3) (hat _ _ m4)
 .obtain⟨x,hx,lx,_,rx,fx⟩:=b1 i hi;obtain⟨y,hy,ly,_,ry,fy⟩:=b2 i hj;exact hM.ne x hx y hy (no _ lx _ ly) rx ry i fx fy
 .obtain⟨x,hx,_,wx,rx,fx⟩:=b1 i hi;exact(hM.may x hx wx rx i fx).elim (fun q=>q.elim) id
 .obtain⟨x,hx,_,wx,rx,fx⟩:=b2 i hi;exact(hM.may x hx wx rx i fx).elim (fun q=>q.elim) id
 .have:=hat _ _ m2;rw[this];show some (J.v 0)=_;rw[hv]
def eS5(P:Program)(fn:Func):Lf->Bool
 | .out .ret s=>bQ5 (aD7 P s fn.results.toList)
 | _=>false
def bZ5(P:Program)(fn:Func):Rs->Bool
 | .ok l=>l.all (eS5 P fn)
 | .error _=>false
theorem bn5{J:Env}(hg:J.R8){sp:List Sy.Spec}(hsp:∀ q∈sp,q.Ok prog J){f:FuncId}{fn:Func}(hf:prog.funcs[f]? =some fn)(hb:fn.body.isSome=true){p:List Nat}{xs:List SV}{cx:Cx}(hrun:bZ5 prog fn (R6 prog sp 10 400 40 (.code (pre p (y7 fn))) (L3 fn xs ⟨[],[],cx,40⟩))=true){w:World}(hc:cx.ok J)
 {args:Array Value} (hargs:args=(xs.map (SV.A1 J (fun _=>0))).toArray):Calls prog f args w (F7 fun v w'=>v= .bool true/\Below w.heap.size w w'):=by
 subst hargs;obtain⟨c,hcd⟩:=Option.isSome_iff_exists.1 hb;have hbc:y7 fn=c:=by unfold y7;rw[hcd];rfl
 refine calls_of_wp hf hcd ?_;have hact:(⟨(xs.map (SV.A1 J (fun _=>0))).toArray++Array.replicate (fn.ntmps - (xs.map (SV.A1 J (fun _=>0))).toArray.size) undef,[]⟩:Act)=⟨((L3 fn xs ⟨[],[],cx,40⟩).tm.map (SV.A1 J (fun _=>0))).toArray,[]⟩:=by
  simp[L3,a93]
 rw[hact,<-hbc];unfold bZ5 at hrun;split at hrun
 .rename_i l hl;refine b51 (B:=⟨J,fun _=>False,w,fun _=>0,40⟩) hg hsp rfl p (y7 fn) _ 400 _ l hl (fun x hx=>?_) (fun _=>0) _ w ⟨rfl,fun b hb=>bG,fun b hb=>bG,fun b hb=>bG,hc,Only.aF4 _ _,fun _ _=>rfl⟩;have hx:=av.1 hrun x hx;cases x with
  | must t s=>cases hx
  | out e s=>
    cases e with
    | exit n=>cases hx
    | normal=>cases hx
    | ret=>
      intro N a1 w1 hM;exact aL9 (B:=⟨J,fun _=>False,w,fun _=>0,40⟩) hM (bh1 hx) ⟨rfl,Sy.Only.R9 hM.only⟩
 .cases hrun
end Go.Proofs.YtnlcpcmdlcakgaaGreat
