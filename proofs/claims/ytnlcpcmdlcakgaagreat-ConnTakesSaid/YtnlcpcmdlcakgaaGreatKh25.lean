/- A part of the proof that a connection answers as the document says: CnI CnT Cn2 CnS. -/
import Derived.Test.YtnlcpcmdlcakgaaGreatKh24
set_option maxRecDepth 100000
set_option maxHeartbeats 4000000
set_option linter.unusedVariables false
set_option linter.unusedSimpArgs false
set_option linter.unusedSectionVars false
open Go.Proofs.Tryz
namespace Go.Proofs.YtnlcpcmdlcakgaaGreat
open Go.RowKit Sy
theorem QRel.am3{s:QS}{L:List (List Value)}{fin:Int}(h:QRel s L fin):s.read<=s.next/\s.next<=s.read+2049/\(s.next<=s.read+2048\/s.over=true)/\s.read<=aC8 s/\aC8 s<=s.read+2048/\aC8 s=L1 L s.read:=by
 have g1:=(az2 h.g s.read).1;have g2:=h.dI9;have hn:=h.next;have ho:=h.over;unfold Z8 at hn;unfold aC8;rw[<-ho]at hn;cases q:s.over with
 | true=>
   rw[q,if_pos rfl]at hn;rw[if_pos rfl];exact⟨by omega,by omega, .inr rfl,by omega,by omega,by omega⟩
 | false=>
   rw[q,if_neg bA]at hn;rw[if_neg bA];exact⟨by omega,by omega, .inl U,by omega,by omega,by omega⟩
theorem eY1:QRel ⟨R0,H0,1,1,-1,false⟩ [] 0:=by
 have hg:aB2 ([]:List (List Value)):=fun r hr=>by cases hr
 have hgap:L1 [] 1=1:=cj6 hg (aF 1) rfl fun p h1 h2=>by omega
 have hh:∀ p,X8 H0 p=false:=fun p=>by
  unfold X8 H0;have hlt:=bX6 p;have e:(List.replicate 2048 [Value.bool false]).getD (p % 2048).toNat []=[.bool false]:=by
   rw[List.getD,List.getElem?_replicate,if_pos hlt];rfl
  rw[e];rfl
 refine⟨du7,hg,by decide,aF 1,aF 0,by decide,?_,?_,rfl,?_,?_,?_,by decide⟩
 .unfold Z3;rfl
 .unfold Z8 Z3;rw[hgap];rfl
 .intro p _ _;show X8 H0 p=true↔L1 [] 1<=p/\V6 [] p≠none;rw[hh];exact⟨fun q=>bK,fun q=>absurd rfl q.2⟩
 .intro p _ _ b hb;cases hb
 .intro p hp;exact absurd rfl hp
def InP(w:World)(g:Nat)(r fin:Int)(L:Rws):Prop:=∃ s:QS,Blk w g 132 (av5 s)/\QRel s L fin/\s.read=r
def dJ1(w w':World)(g:Nat)(r fin:Int)(L:Rws):Prop:=InP w' g r fin L/\Only (· =g) w w'
def eR0:List Bd:=[⟨.iv 0,0,2305843009213693952⟩,⟨.iv 1,0,2305843009213693952⟩]
def af5:Sy.St:=⟨[],[quO 0 false j8 j5 j9 m8 m9 o9],⟨eR0,[]⟩,4⟩
theorem de4:smR prog f87 4 (R6 prog [] 10 400 4 (.code (y7 f87)) (L3 f87 [.one (.c (.ptr 0 0))] af5))=some [(.ret qdz af5.hp [])]:=by kernel_rfl
theorem de0:smR prog f73 4 (R6 prog [] 10 400 4 (.code (y7 f73)) (L3 f73 [.one (.c (.ptr 0 0))] af5))=some (fq8 [.b o9,.l (.ret (.one (.c (.int .i64 (.sub qen j9)))) af5.hp),.l (.ret (.one (.c (.int .i64 qg2))) af5.hp)] [[]]):=by kernel_rfl
theorem dd9:smR prog f86 4 (R6 prog [] 10 400 4 (.code (y7 f86)) (L3 f86 [.one (.c (.ptr 0 0))] af5))=some (fq8 [.b o9,.l (.ret (.one (.c (.int .i64 (.sub o7 (.sub qen j9))))) af5.hp),.l (.ret (.one (.c (.int .i64 (.sub o7 qg2)))) af5.hp)] [[]]):=by kernel_rfl
theorem de3:smR prog f75 4 (R6 prog [] 10 400 4 (.code (y7 f75)) (L3 f75 [.one (.c (.ptr 0 0))] af5))=some [(.ret (.one (.c (.bool o9))) af5.hp [])]:=by kernel_rfl
section
variable{w:World}{g:Nat}{r fin:Int}{L:Rws}
def av9(s:QS):Env:= { U9 [s.read,s.next,s.fin] [s.over] [] []with c:=fun n=>if n=0 then s.R else s.H }
theorem bX9{s:QS}(hB:Blk w g 132 (av5 s))(hR:QRel s L fin):Md (av9 s) (fun _=>False) w (fun _=>g) 4 af5 (fun _=>g) ⟨#[],[]⟩ w:=by
 obtain⟨n1,n2,n3,n4,n5,n6⟩:=hR.am3;have h1:=hR.r1;have h2:=hR.rk;refine Sy.Md.ax8 ⟨aX0.2 ⟨hB,hR.ok⟩,trivial⟩ ⟨trivial,trivial⟩ ⟨fun h=>bF,trivial⟩ (cxP ⟨⟨?_,?_⟩,⟨?_,?_⟩,trivial⟩ trivial) rfl
 .show(0:Int)<=s.read;omega
 .show s.read<=2305843009213693952;omega
 .show(0:Int)<=s.next;omega
 .show s.next<=2305843009213693952;omega
theorem c04(h:InP w g r fin L):Calls prog 87 #[.pointer (some ⟨g,0,none⟩)] w (F7 fun v w'=>v= .int .i64 (Z8 L r fin)/\Below w.heap.size w w'):=by
 obtain⟨s,hB,hR,rfl⟩:=h;refine W3 (B:=⟨av9 s,fun _=>False,w,fun _=>g,4⟩) (sp:=[]) (fun i=>rfl) (fun q hq=>by cases hq) 10 400 func87 rfl [.one (.c (.ptr 0 0))] af5 _ 4 rfl de4 (bX9 hB hR) ⟨?_,trivial⟩ rfl;intro _ N w' hH;exact⟨aD3 hR.next,Sy.Only.R9 hH.only⟩
theorem c03(h:InP w g r fin L):Calls prog 75 #[.pointer (some ⟨g,0,none⟩)] w (F7 fun v w'=>v= .bool (Z3 L r fin)/\Below w.heap.size w w'):=by
 obtain⟨s,hB,hR,rfl⟩:=h;refine W3 (B:=⟨av9 s,fun _=>False,w,fun _=>g,4⟩) (sp:=[]) (fun i=>rfl) (fun q hq=>by cases hq) 10 400 func75 rfl [.one (.c (.ptr 0 0))] af5 _ 4 rfl de3 (bX9 hB hR) ⟨?_,trivial⟩ rfl;intro _ N w' hH;exact⟨au8 hR.over,Sy.Only.R9 hH.only⟩
theorem cj1(h:InP w g r fin L):Calls prog 73 #[.pointer (some ⟨g,0,none⟩)] w (F7 fun v w'=>v= .int .i64 (L1 L r - r)/\Below w.heap.size w w'):=by
 obtain⟨s,hB,hR,rfl⟩:=h;obtain⟨n1,n2,n3,n4,n5,n6⟩:=hR.am3;refine W3 (B:=⟨av9 s,fun _=>False,w,fun _=>g,4⟩) (sp:=[]) (fun i=>rfl) (fun q hq=>by cases hq) 10 400 func73 rfl [.one (.c (.ptr 0 0))] af5 _ 4 rfl de0 (bX9 hB hR) ⟨?_,?_,trivial⟩ rfl;all_goals
  intro hpc N w' hH;refine⟨aD3 ?_,Sy.Only.R9 hH.only⟩;replace hpc:A6 (av9 s) _:=hpc;simp only[A6,y9,G1,and_true]at hpc;unfold aC8 at n6;rw[<-n6]
 .have e:s.over=true:=hpc;rw[e,if_pos rfl];show s.next+ -1 - s.read=_;omega
 .have e:s.over=false:=bc.2 hpc;rw[e,if_neg bA];rfl
theorem cP1(h:InP w g r fin L):Calls prog 86 #[.pointer (some ⟨g,0,none⟩)] w (F7 fun v w'=>v= .int .i64 (2048 - (L1 L r - r))/\Below w.heap.size w w'):=by
 obtain⟨s,hB,hR,rfl⟩:=h;obtain⟨n1,n2,n3,n4,n5,n6⟩:=hR.am3;refine W3 (B:=⟨av9 s,fun _=>False,w,fun _=>g,4⟩) (sp:=[]) (fun i=>rfl) (fun q hq=>by cases hq) 10 400 func86 rfl [.one (.c (.ptr 0 0))] af5 _ 4 rfl dd9 (bX9 hB hR) ⟨?_,?_,trivial⟩ rfl;all_goals
  intro hpc N w' hH;refine⟨aD3 ?_,Sy.Only.R9 hH.only⟩;replace hpc:A6 (av9 s) _:=hpc;simp only[A6,y9,G1,and_true]at hpc;unfold aC8 at n6;rw[<-n6]
 .have e:s.over=true:=hpc;rw[e,if_pos rfl];show 2048 - (s.next+ -1 - s.read)=_;omega
 .have e:s.over=false:=bc.2 hpc;rw[e,if_neg bA];rfl
theorem de5(h:InP w g r fin L){a:Int}{body:ByteArray}{ff:Bool}(a0: -9223372036854775808<=a)(a1:a<=9223372036854775807)(hb:body.size<=140737488355328):
 Calls prog 125 #[.pointer (some ⟨g,0,none⟩), .int .i64 a, .string body, .bool ff] w (F7 fun v w'=>v= .bool (ah4 L r fin a body ff)/\dJ1 w w' g r (aF7 L r fin a body ff) (W8 L r fin a body)):=by
 obtain⟨s,hB,hR,rfl⟩:=h;obtain⟨n1,n2,n3,n4,n5,n6⟩:=hR.am3;have h1:=hR.r1;have h2:=hR.rk;have h3:=hR.f0;have h4:=hR.f1;have h5:=hR.fin;have hq:QpIn s a body:=⟨hR.ok,by omega,h2,n1,n3,by omega,by rw[h5];split<;>omega,by rw[h5];split<;>omega,a0,a1,hb⟩;obtain⟨p1,p2⟩:=cE2 hR (ff:=ff) a0 a1 hb;refine(bX0 hq hB (ff:=ff)).mono ?_;rintro e w' ⟨v,rfl,rfl,b1,b2,b3⟩;refine⟨_,rfl,by rw[p2],⟨⟨_,b1,p1,?_⟩,b3⟩⟩;unfold aE1;split<;>rfl
theorem c02(h:InP w g r fin L){a:Int}(a0: -9223372036854775808<=a)(a1:a<=9223372036854775807):
 Calls prog 74 #[.pointer (some ⟨g,0,none⟩), .int .i64 a] w (F7 fun v w'=>v= .string (rdS (aP5 L) r (rdN L r a).toNat)/\dJ1 w w' g (r+rdN L r a) fin L):=by
 obtain⟨s,hB,hR,rfl⟩:=h;obtain⟨n1,n2,n3,n4,n5,n6⟩:=hR.am3;have h1:=hR.r1;have h2:=hR.rk;have hq:QdIn s a:=⟨hR.ok,by omega,h2,n4,n5,a0,a1⟩;have en:qdN s a=rdN L s.read a:=by unfold qdN rdN;rw[n6]
 obtain⟨p1,p2⟩:=bw9 hR a;refine(bN4 hq hB).mono ?_;rintro e w' ⟨v,rfl,rfl,b1,b3⟩;rw[en]at b1 ⊢;exact⟨_,rfl,by rw[p2],⟨⟨_,b1,p1,rfl⟩,b3⟩⟩
theorem de6(w:World):Calls prog 93 #[] w (F7 fun v w'=>∃ g,v= .pointer (some ⟨g,0,none⟩)/\w.heap.size<=g/\InP w' g 1 0 []/\Below w.heap.size w w'):=by
 refine(by4 w).mono ?_;rintro e w' ⟨v,rfl,g,rfl,h1,h2,h3⟩;exact⟨_,rfl,g,rfl,h1,⟨⟨R0,H0,1,1,-1,false⟩,h2,eY1,rfl⟩,h3⟩
end
def bX3(l fl j:Nat)(ty:TypeId)(rw:Bool)(t:Tm):Bk:=⟨l,ty,[.ptr fl 0],rw,none, .own j t⟩
abbrev ownB(l fl j:Nat)(ty:TypeId)(t:Tm):Bk:=bX3 l fl j ty true t
theorem ai4(F:List Nat):(fun i=>(X3 F).testBit i=true)=fun i=>i∈F:=funext fun i=>propext (ad7 i F)
theorem au0{J:Env}{N:Bn}{w w':World}{s:Sy.St}{l fl n j:Nat}{ty:TypeId}{t t':Tm}(hl:l+1<s.nx)(hn:s.nx<=n)(hd:ownB l fl j ty t∈s.hp){F F':List Nat}(hF:∀ i,(N fl).testBit i=true↔i∈F)
 (hP:(J.o j).P w' (N l) (fun i=>i∈F') (u9 J t').c) (hO:Only (fun i=>i∈F) w w') (hf:∀ i∈F',i∈F\/w.heap.size<=i):
 Chg J N (E8 N n (X3 F')) w w' s [] [] [] (some (ownB l n j ty t')):=by
 have e0:E8 N n (X3 F') l=N l:=B3 U;have e1:E8 N n (X3 F') n=X3 F':=K7 ..;have inF:∀ i,i∈F->fp N (ownB l fl j ty t) i:=fun i hi=> .inr ⟨rfl,(hF i).2 hi⟩
 refine⟨hO.aj6 fun i _ hi=> .inr (.inr ⟨_,rfl,_,hd,rfl,⟨rfl,rfl⟩,inF i hi⟩),fun k hk=>B3 U,fun _ h=>bF,fun _ h=>bF,fun b hb=>?_,fun _ h=>bF,fun _ h=>bF,fun _ h=>bF⟩
 injection hb with hb;subst hb;have hroot:N l∈F':=(J.o j).root hP;refine⟨?_,fun i hi=>?_⟩
 .show(J.o j).P w' (E8 N n (X3 F') l) (fun i=>(E8 N n (X3 F') n).testBit i=true) (u9 J t').c;rw[e0,e1,ai4];exact hP
 .have hi':i∈F':=by
   rcases hi with hi|⟨_,hi⟩
   .change i=E8 N n (X3 F') l at hi;rw[hi,e0];exact hroot
   .change(E8 N n (X3 F') n).testBit i=true at hi;rw[e1,ad7]at hi;exact hi
  exact(hf i hi').imp (fun q=>⟨_,hd,rfl,⟨rfl,rfl⟩,inF i q⟩) (fun q=>q)
def ay9(s:Sy.St)(l:Nat):Option (TypeId × Nat × Nat × Bool × Tm):=match aD0 l s.hp with
 | some ⟨_,ty,[.ptr fl 0],rw,none, .own j t⟩=>if Nat.blt (l+1) s.nx then some (ty,fl,j,rw,t)else none
 | _=>none
theorem ak6{s:Sy.St}{l:Nat}{ty:TypeId}{fl j:Nat}{rw:Bool}{t:Tm}(h:ay9 s l=some (ty,fl,j,rw,t)):bX3 l fl j ty rw t∈s.hp/\l+1<s.nx:=by
 unfold ay9 at h;split at h
 .rename_i l' ty' fl' rw' j' t' hf;split at h
  .rename_i q;injection h with h;injection h with h1 h;injection h with h2 h;injection h with h3 h;injection h with h4 h5;subst h1 h2 h3 h4 h5;have:=U4 hf;have e:l'=l:=this.2;subst e;exact⟨this.1,aB1 q⟩
  .cases h
 .cases h
theorem bX5{J:Env}{N:Bn}{w w':World}{s:Sy.St}(hb:Below w.heap.size w w'):Chg J N N w w' s [] [] [] none:=Chg.bd7 hb
def aM5(r:List Value):Ou:=⟨aB8 r 0,Y5 r 1,z9 r 2,z9 r 3,z9 r 4⟩
theorem OuP.dJ0{w w':World}{g:Nat}{F:List Nat}{o:Ou}(h:OuP w g F o)(hk:∀ i∈F,w'.heap[i]? =w.heap[i]?):OuP w' g F o:=by
 obtain⟨gb,cap,bytes,base,h1,h2,h3,h4,rfl⟩:=h;refine⟨gb,cap,bytes,base,(hk g (ae ..)).trans h1,⟨fun hc=>?_,h2.len⟩,h3,h4,rfl⟩;obtain⟨cur,fr,q1,q2⟩:=h2.row hc;exact⟨cur,fr,(hk gb (by unfold ouF;rw[if_neg hc];exact aj _ (ae ..))).trans q1,q2⟩
theorem OuP.lt{w:World}{g:Nat}{F:List Nat}{o:Ou}(h:OuP w g F o):∀ i∈F,i<w.heap.size:=by
 obtain⟨gb,cap,bytes,base,h1,h2,h3,h4,rfl⟩:=h;intro i hi;unfold ouF at hi;rcases aa.1 hi with rfl|hi
 .exact h1.lt
 .split at hi
  .cases hi
  .rename_i hc;rw[ah.1 hi];obtain⟨cur,fr,q1,q2⟩:=h2.row hc;exact(aP.1 q1).1
theorem OuP.eK2{w:World}{g:Nat}{F:List Nat}{o:Ou}(h:OuP w g F o):g∈F:=by
 obtain⟨gb,cap,bytes,base,h1,h2,h3,h4,rfl⟩:=h;exact ae ..
def eY8:Thing where
 P:=fun w g Fp c=>∃ F,OuP w g F (aM5 (c.headD []))/\∀ i,Fp i↔i∈F
 keep:=fun⟨F,h,hF⟩ hk=>⟨F,h.dJ0 fun i hi=>hk i ((hF i).2 hi),hF⟩
 lt:=fun⟨F,h,hF⟩ i hi=>h.lt i ((hF i).1 hi)
 root:=fun⟨F,h,hF⟩=>(hF _).2 h.eK2
theorem InP.eK9{w w':World}{g:Nat}{r f:Int}{L:Rws}(h:InP w g r f L)(hk:w'.heap[g]? =w.heap[g]?):InP w' g r f L:=by
 obtain⟨s,h1,h2,h3⟩:=h;exact⟨s,hk.trans h1,h2,h3⟩
theorem InP.lt{w:World}{g:Nat}{r f:Int}{L:Rws}(h:InP w g r f L):g<w.heap.size:=by
 obtain⟨s,h1,h2,h3⟩:=h;exact h1.lt
def eZ5:Thing where
 P:=fun w g Fp c=>InP w g (z9 (c.headD []) 0) (z9 (c.headD []) 1) c.tail/\∀ i,Fp i↔i=g
 keep:=fun⟨h,hF⟩ hk=>⟨h.eK9 (hk _ ((hF _).2 rfl)),hF⟩
 lt:=fun⟨h,hF⟩ i hi=>(hF i).1 hi ▸ h.lt
 root:=fun⟨h,hF⟩=>(hF _).2 rfl
def TmP(w:World)(g:Nat)(mean spr dbl:Int):Prop:=∃(known:Bool) (m:Int),Blk w g 120 (ah1 known m spr dbl)/\(0<=dbl/\dbl<=6)/\(0<=spr/\spr<=4398046511104)/\
 ((known=false/\mean= -1)\/(known=true/\m=mean/\0<=mean/\mean<=8796093022208))
def tmT:Thing where
 P:=fun w g Fp c=>TmP w g (z9 (c.headD []) 0) (z9 (c.headD []) 1) (z9 (c.headD []) 2)/\∀ i,Fp i↔i=g
 keep:=fun⟨⟨k,m,h,q⟩,hF⟩ hk=>⟨⟨k,m,(hk _ ((hF _).2 rfl)).trans h,q⟩,hF⟩
 lt:=fun⟨⟨k,m,h,q⟩,hF⟩ i hi=>(hF i).1 hi ▸ h.lt
 root:=fun⟨h,hF⟩=>(hF _).2 rfl
def RinP(w:World)(g:Nat)(F:List Nat)(r fin:Int)(L:Rws):Prop:=∃ gm,Blk w g 135 (aG3 gm r fin)/\MapT w gm [.int .i64] false (.int .u8) L/\g≠gm/\RxIn L r fin/\F=[g,gm]
theorem RinP.eJ9{w w':World}{g:Nat}{F:List Nat}{r f:Int}{L:Rws}(h:RinP w g F r f L)(hk:∀ i∈F,w'.heap[i]? =w.heap[i]?):RinP w' g F r f L:=by
 obtain⟨gm,h1,h2,h3,h4,rfl⟩:=h;exact⟨gm,(hk g (ae ..)).trans h1,⟨h2.obj.imp fun es ⟨clock,q1,q2⟩=>⟨clock,(hk gm (aj _ (ae ..))).trans q1,q2⟩,h2.ok⟩,h3,h4,rfl⟩
theorem RinP.lt{w:World}{g:Nat}{F:List Nat}{r f:Int}{L:Rws}(h:RinP w g F r f L):∀ i∈F,i<w.heap.size:=by
 obtain⟨gm,h1,h2,h3,h4,rfl⟩:=h;intro i hi;rcases aa.1 hi with rfl|hi
 .exact h1.lt
 .rw[ah.1 hi];obtain⟨es,clock,q1,q2⟩:=h2.obj;exact(aP.1 q1).1
theorem RinP.eJ8{w:World}{g:Nat}{F:List Nat}{r f:Int}{L:Rws}(h:RinP w g F r f L):g∈F:=by
 obtain⟨gm,h1,h2,h3,h4,rfl⟩:=h;exact ae ..
def eY0:Thing where
 P:=fun w g Fp c=>∃ F,RinP w g F (z9 (c.headD []) 0) (z9 (c.headD []) 1) c.tail/\∀ i,Fp i↔i∈F
 keep:=fun⟨F,h,hF⟩ hk=>⟨F,h.eJ9 fun i hi=>hk i ((hF i).2 hi),hF⟩
 lt:=fun⟨F,h,hF⟩ i hi=>h.lt i ((hF i).1 hi)
 root:=fun⟨F,h,hF⟩=>(hF _).2 h.eJ8
def RtP(w:World)(g:Nat)(mean spr dbl:Int):Prop:=Blk w g 101 (a67 mean spr dbl)/\(0<=dbl/\dbl<=6)/\(0<=spr/\spr<=4398046511104)/\(mean= -1\/(0<=mean/\mean<=8796093022208))
def eX9:Thing where
 P:=fun w g Fp c=>RtP w g (z9 (c.headD []) 0) (z9 (c.headD []) 1) (z9 (c.headD []) 2)/\∀ i,Fp i↔i=g
 keep:=fun⟨⟨h,q⟩,hF⟩ hk=>⟨⟨(hk _ ((hF _).2 rfl)).trans h,q⟩,hF⟩
 lt:=fun⟨⟨h,q⟩,hF⟩ i hi=>(hF i).1 hi ▸ h.lt
 root:=fun⟨h,hF⟩=>(hF _).2 rfl
def cnO:Nat->Thing:=fun k=>if k=0 then eY8 else if k=1 then eZ5 else if k=2 then tmT else if k=3 then eY0 else if k=4 then eX9 else Thing.a20
section
variable{w:World}{g:Nat}{mean spr dbl:Int}
theorem dT6(h:TmP w g mean spr dbl):Calls prog 109 #[.pointer (some ⟨g,0,none⟩)] w (F7 fun v w'=>v= .tuple #[]/\TmP w' g mean spr (aK1 dbl)/\Only (· =g) w w'):=by
 obtain⟨k,m,h1,h2,h3,h4⟩:=h;refine(cv4 g k m spr dbl w h1 h2.1 h2.2).mono ?_;rintro e w' ⟨rfl,b1,b2⟩;refine⟨_,rfl,rfl,⟨k,m,b1,?_,h3,h4⟩,b2⟩;unfold aK1;split<;>omega
def smp(mean spr dbl r:Int):Int × Int × Int:=
 if r<0\/1099511627776<r then(mean,spr,dbl)else if mean<0 then(8*r,2*r,0)else(mean+(r - mean /8),spr+(af9 (r - mean /8) - spr /4),0)
theorem bV9{r:Int}(h1:0<=dbl/\dbl<=6)(h2:0<=spr/\spr<=4398046511104)(h3:mean= -1\/(0<=mean/\mean<=8796093022208)):
 (0<=(smp mean spr dbl r).2.2/\(smp mean spr dbl r).2.2<=6)/\(0<=(smp mean spr dbl r).2.1/\(smp mean spr dbl r).2.1<=4398046511104)/\((smp mean spr dbl r).1= -1\/(0<=(smp mean spr dbl r).1/\(smp mean spr dbl r).1<=8796093022208)):=by
 unfold smp af9;split
 .exact⟨h1,h2,h3⟩
 .split
  .refine⟨by simp,?_, .inr ?_⟩<;>simp<;>omega
  .refine⟨by simp,?_, .inr ?_⟩
   .simp only;split<;>omega
   .simp only;omega
theorem ca9(h:TmP w g mean spr dbl)(r:Int):Calls prog 120 #[.pointer (some ⟨g,0,none⟩), .int .i64 r] w (F7 fun v w'=>v= .int .i64 (if r<0\/1099511627776<r then 1 else 0)/\TmP w' g (smp mean spr dbl r).1 (smp mean spr dbl r).2.1 (smp mean spr dbl r).2.2/\Only (· =g) w w'):=by
 obtain⟨k,m,h1,h2,h3,h4⟩:=h;have hb:=bV9 (r:=r) h2 h3 (by omega:mean= -1\/(0<=mean/\mean<=8796093022208));by_cases q:r<0\/1099511627776<r
 .refine(bq9 g r w q).mono ?_;rintro e w' ⟨rfl,rfl⟩;have es:smp mean spr dbl r=(mean,spr,dbl):=if_pos q;rw[if_pos q,es];exact⟨_,rfl,rfl,⟨k,m,h1,h2,h3,h4⟩,Only.aF4 _ _⟩
 .rw[if_neg q];rcases h4 with⟨rfl,h4⟩|⟨rfl,rfl,h4⟩
  .refine(bO6 g m spr dbl r w h1 U U).mono ?_;rintro e w' ⟨rfl,b1,b2⟩;have es:smp mean spr dbl r=(8*r,2*r,0):=by unfold smp;rw[if_neg q,if_pos U]
   rw[es]at hb ⊢;exact⟨_,rfl,rfl,⟨true,8*r,b1,hb.1,hb.2.1, .inr ⟨rfl,rfl,by have:=hb.2.2;simp only at this ⊢;omega⟩⟩,b2⟩
  .refine(bW4 g m spr dbl r w h1 U U h4.1 h4.2 h3.1 h3.2).mono ?_;rintro e w' ⟨rfl,b1,b2⟩;have es:smp m spr dbl r=(m+(r - m /8),spr+(af9 (r - m /8) - spr /4),0):=by unfold smp;rw[if_neg q,if_neg U]
   rw[es]at hb ⊢;exact⟨_,rfl,rfl,⟨true,_,b1,hb.1,hb.2.1, .inr ⟨rfl,rfl,by have:=hb.2.2;simp only at this ⊢;omega⟩⟩,b2⟩
theorem cu0(h:TmP w g mean spr dbl):Calls prog 67 #[.pointer (some ⟨g,0,none⟩)] w (F7 fun v w'=>v= .int .i64 (aT5 (decide (0<=mean)) mean spr dbl)/\Below w.heap.size w w'):=by
 obtain⟨k,m,h1,h2,h3,h4⟩:=h;rcases h4 with⟨rfl,h4⟩|⟨rfl,rfl,h4⟩
 .refine(bw1 g m spr dbl w h1 h2.1 h2.2).mono ?_;rintro e w' ⟨rfl,n,rfl⟩;rw[aH (p:=0<=mean) U];exact⟨_,rfl,rfl,⟨rfl,rfl,rfl,aI _,fun _ _=>rfl⟩⟩
 .refine(bw2 g m spr dbl w h1 h2.1 h2.2 h4.1 h4.2 h3.1 h3.2).mono ?_;rintro e w' ⟨rfl,n,rfl⟩;rw[aD (p:=0<=m) h4.1];exact⟨_,rfl,rfl,⟨rfl,rfl,rfl,aI _,fun _ _=>rfl⟩⟩
end
def Y3(l:List Int):Rws:=l.map fun n=>[.int .u32 n]
def hd(x:Dn):List Value:=x.c.headD []
def sgR(s:Sg):List Value:=[.int .u32 s.fa, .int .i64 s.fp, .int .u32 s.ta, .int .i64 s.tp, .int .u32 s.sq, .int .u32 s.ak, .bool s.syn, .bool s.hak, .bool s.fin, .bool s.rst, .int .i64 s.win, .int .i64 s.mss, .string s.body]
def cnF:Nat->Dn->Dn->Dn->Dn:=fun n x y z=>
 if n=90 then⟨z9 (hd y) x.i.toNat,Y5 (hd y) x.i.toNat,aB8 (hd y) x.i.toNat,[]⟩
 else if n=91 then dC [K9 ((R7 (hd y)).aD8 x.i.toNat z.i)]
 else if n=92 then dC [K9 ((R7 (hd y)).ay1 x.i.toNat z.b)]
 else if n=93 then dC [K9 ((R7 (hd y)).bU7 x.i.toNat z.s)]
 else if n=100 then dI (aT1 x.i y.i)
 else if n=101 then dB (aO2 x.i y.i (z9 (hd z) 0) (z9 (hd z) 1))
 else if n=102 then dI (aT5 (decide (0<=x.i)) x.i y.i z.i)
 else if n=103 then dI (Cn.err (W5 (hd x)))
 else if n=104 then dI (smp x.i y.i (z9 (hd z) 0) (z9 (hd z) 1)).1
 else if n=105 then dI (smp x.i y.i (z9 (hd z) 0) (z9 (hd z) 1)).2.1
 else if n=106 then dI (smp x.i y.i (z9 (hd z) 0) (z9 (hd z) 1)).2.2
 else if n=107 then dI (aK1 x.i)
 else if n=108 then dI (aN3 (z9 (hd x) 0) (z9 (hd x) 1) (z9 (hd x) 2) y.i)
 else if n=109 then dI (aC3 x.i y.i)
 else if n=110 then dI ((aM5 (hd x)).pAt y.i (z9 (hd z) 0) (z9 (hd z) 1))
 else if n=111 then dB ((aM5 (hd x)).aB5 y.i (z9 (hd z) 0) (z9 (hd z) 1))
 else if n=112 then dB ((aM5 (hd x)).aI0 y.i (z9 (hd z) 0) (z9 (hd z) 1))
 else if n=113 then dS ((aM5 (hd x)).aD6 y.i (z9 (hd z) 0) (z9 (hd z) 1))
 else if n=114 then dB ((aM5 (hd x)).pIs y.i (z9 (hd z) 0) (z9 (hd z) 1))
 else if n=115 then dI (aM5 (hd x)).aS5
 else if n=116 then dI (min (y.s.size:Int) (aM5 (hd x)).aS5)
 else if n=117 then dI ((aM5 (hd x)).ad1 y.i)
 else if n=118 then dI ((aM5 (hd x)).ack y.i).una
 else if n=119 then dI ((aM5 (hd x)).ack y.i).cur
 else if n=128 then dI ((aM5 (hd x)).aB6 y.i z.i)
 else if n=129 then dI (max (aM5 (hd x)).snt ((aM5 (hd x)).aB6 y.i z.i))
 else if n=131 then dI (L1 x.c y.i - y.i)
 else if n=120 then dC [K9 (R7 (hd x)).F6]
 else if n=121 then dC [K9 ((R7 (hd x)).syn (W5 (hd z)))]
 else if n=122 then dC [K9 ((R7 (hd x)).V7 y.i)]
 else if n=123 then dC [K9 ((R7 (hd x)).Z4 (W5 (hd z)) (z9 (hd z) 13))]
 else if n=124 then dB ((R7 (hd x)).aE9 (W5 (hd z)) (z9 (hd z) 13))
 else if n=125 then dC (Y3 ((R7 (hd x)).aC5 (W5 (hd z))))
 else if n=126 then dC [K9 ((R7 (hd x)).aA5 y.c (W5 (hd z)) (z9 (hd z) 13))]
 else if n=127 then dC ((R7 (hd x)).aA4 y.c (W5 (hd z)) (z9 (hd z) 13))
 else if n=133 then dC [K9 ((R7 (hd x)).Z4 (W5 (hd z)) ((R7 (hd x)).K8 y.c (W5 (hd z))))]
 else if n=134 then dB ((R7 (hd x)).aE9 (W5 (hd z)) ((R7 (hd x)).K8 y.c (W5 (hd z))))
 else if n=136 then dC [K9 ((R7 (hd x)).aA5 y.c (W5 (hd z)) ((R7 (hd x)).K8 y.c (W5 (hd z))))]
 else if n=137 then dC ((R7 (hd x)).aA4 y.c (W5 (hd z)) ((R7 (hd x)).K8 y.c (W5 (hd z))))
 else if n=140 then dC [K9 ((R7 (hd x)).inC y.c (W5 (hd z)))]
 else if n=141 then dC ((R7 (hd x)).inL y.c (W5 (hd z)))
 else if n=142 then dC (Y3 ((R7 (hd x)).inR y.c (W5 (hd z))))
 else if n=143 then dI ((R7 (hd x)).inE (W5 (hd z)))
 else if n=144 then dB ((R7 (hd x)).inC y.c (W5 (hd z))).has
 else if n=145 then dC [K9 ((R7 (hd x)).aN4 y.i)]
 else if n=146 then dI ((R7 (hd x)).aW7 y.i)
 else if n=147 then dC [K9 ((R7 (hd x)).wrC y.s)]
 else if n=148 then dI ((R7 (hd x)).wrA y.s)
 else if n=149 then dI ((R7 (hd x)).wrE y.s)
 else if n=150 then dC [K9 ((R7 (hd x)).rdC y.c z.i)]
 else if n=151 then dS ((R7 (hd x)).rdT y.c z.i)
 else if n=152 then dB ((R7 (hd x)).rdB y.c)
 else if n=153 then dI ((R7 (hd x)).rdE y.c)
 else if n=154 then dC [K9 (R7 (hd x)).clC]
 else if n=155 then dI (R7 (hd x)).clE
 else if n=156 then dC [K9 (R7 (hd x)).abC]
 else if n=157 then dI (R7 (hd x)).abE
 else if n=158 then dC (Y3 (R7 (hd x)).abR)
 else if n=159 then dI ((R7 (hd x)).am6 y.c)
 else if n=160 then dC [K9 (R7 (hd x)).aN5]
 else if n=161 then dC (((R7 (hd x)).aB3 y.c (z.c.map fun r=>z9 r 0)).map sgR)
 else a07 n x y z
def S0(j:Int)(Y:Tm):Tm:= .ap 90 (.il j) Y i9
def B4(J:Env)(Y:Tm):Cn:=R7 (hd (u9 J Y))
section
variable{J:Env}(hf:J.f=cnF)
include hf
theorem F3(n:Nat)(x y z:Tm):u9 J (.ap n x y z)=cnF n (u9 J x) (u9 J y) (u9 J z):=by
 show J.f n _ _ _=_;rw[hf]
theorem q_4(Y:Tm):(u9 J (.ap 90 s8 Y i9)).i=(B4 J Y).st:=by rw[F3 hf];rfl
theorem q_5(Y:Tm):(u9 J (.ap 90 (.il 5) Y i9)).i=(B4 J Y).why:=by rw[F3 hf];rfl
theorem aq7(Y:Tm):(u9 J (.ap 90 (.il 13) Y i9)).i=(B4 J Y).now:=by rw[F3 hf];rfl
theorem aq6(Y:Tm):(u9 J (.ap 90 (.il 23) Y i9)).b=(B4 J Y).shut:=by rw[F3 hf];rfl
theorem af2(Y:Tm):(u9 J (.ap 90 (.il 24) Y i9)).i=(B4 J Y).una:=by rw[F3 hf];rfl
theorem eY5(Y:Tm):(u9 J (.ap 90 (.il 26) Y i9)).i=(B4 J Y).snt:=by rw[F3 hf];rfl
theorem aq5(Y:Tm):(u9 J (.ap 90 (.il 27) Y i9)).s=(B4 J Y).all:=by rw[F3 hf];rfl
theorem d_4(Y v:Tm):B4 J (.ap 91 s8 Y v)= { B4 J Y with st:=(u9 J v).i }:=by unfold B4;rw[F3 hf];rfl
theorem d_5(Y v:Tm):B4 J (.ap 91 (.il 5) Y v)= { B4 J Y with why:=(u9 J v).i }:=by unfold B4;rw[F3 hf];rfl
theorem aN1(Y v:Tm):B4 J (.ap 91 (.il 13) Y v)= { B4 J Y with now:=(u9 J v).i }:=by unfold B4;rw[F3 hf];rfl
theorem aN0(Y v:Tm):B4 J (.ap 91 (.il 14) Y v)= { B4 J Y with clk:=(u9 J v).i }:=by unfold B4;rw[F3 hf];rfl
theorem aM9(Y v:Tm):B4 J (.ap 91 (.il 15) Y v)= { B4 J Y with gone:=(u9 J v).i }:=by unfold B4;rw[F3 hf];rfl
theorem eD3(Y v:Tm):B4 J (.ap 91 (.il 17) Y v)= { B4 J Y with ends:=(u9 J v).i }:=by unfold B4;rw[F3 hf];rfl
theorem aJ5(Y v:Tm):B4 J (.ap 91 (.il 21) Y v)= { B4 J Y with meas:=(u9 J v).i }:=by unfold B4;rw[F3 hf];rfl
theorem c46(Y v:Tm):B4 J (.ap 91 (.il 22) Y v)= { B4 J Y with wen:=(u9 J v).i }:=by unfold B4;rw[F3 hf];rfl
theorem aI3(Y v:Tm):B4 J (.ap 91 (.il 25) Y v)= { B4 J Y with cur:=(u9 J v).i }:=by unfold B4;rw[F3 hf];rfl
theorem c45(Y v:Tm):B4 J (.ap 91 (.il 26) Y v)= { B4 J Y with snt:=(u9 J v).i }:=by unfold B4;rw[F3 hf];rfl
theorem aM8(Y v:Tm):B4 J (.ap 91 (.il 33) Y v)= { B4 J Y with dbl:=(u9 J v).i }:=by unfold B4;rw[F3 hf];rfl
theorem aM7(Y v:Tm):B4 J (.ap 91 (.il 35) Y v)= { B4 J Y with cz:=(u9 J v).i }:=by unfold B4;rw[F3 hf];rfl
theorem aM6(Y v:Tm):B4 J (.ap 91 (.il 36) Y v)= { B4 J Y with cs:=(u9 J v).i }:=by unfold B4;rw[F3 hf];rfl
theorem ai2(Y v:Tm):B4 J (.ap 91 (.il 37) Y v)= { B4 J Y with bg:=(u9 J v).i }:=by unfold B4;rw[F3 hf];rfl
theorem bF2(Y v:Tm):B4 J (.ap 92 (.il 18) Y v)= { B4 J Y with owed:=(u9 J v).b }:=by unfold B4;rw[F3 hf];rfl
theorem c47(Y v:Tm):B4 J (.ap 92 (.il 19) Y v)= { B4 J Y with again:=(u9 J v).b }:=by unfold B4;rw[F3 hf];rfl
theorem aJ6(Y v:Tm):B4 J (.ap 92 (.il 20) Y v)= { B4 J Y with prb:=(u9 J v).b }:=by unfold B4;rw[F3 hf];rfl
theorem ai3(Y v:Tm):B4 J (.ap 92 (.il 23) Y v)= { B4 J Y with shut:=(u9 J v).b }:=by unfold B4;rw[F3 hf];rfl
theorem X9(Y v:Tm):B4 J (.ap 92 o6 Y v)= { B4 J Y with has:=(u9 J v).b }:=by unfold B4;rw[F3 hf];rfl
theorem cQ4(Y v:Tm):B4 J (.ap 93 (.il 27) Y v)= { B4 J Y with all:=(u9 J v).s }:=by unfold B4;rw[F3 hf];rfl
end
def zI(t r:Tm):Tm:= .tb qax t r i9
def ouT(a b u c z:Tm):Tm:= .tb (.cons .str) a (.tb qb4 b (zI u (zI c (zI z qao))) i9) i9
def ouD(J:Env)(a b u c z:Tm):Ou:=⟨(u9 J a).s,(u9 J b).b,(u9 J u).i,(u9 J c).i,(u9 J z).i⟩
def ouC(s:Sy.St)(l:Nat):Option (TypeId × Nat × Tm × Tm × Tm × Tm × Tm):=match ay9 s l with
 | some (ty,fl,0,true, .tb (.cons .str) a (.tb (.cons .bool) b (.tb (.cons (.int .i64)) u (.tb (.cons (.int .i64)) c (.tb (.cons (.int .i64)) z (.tb .row (.il 0) (.il 0) (.il 0)) (.il 0)) (.il 0)) (.il 0)) (.il 0)) (.il 0))=>some (ty,fl,a,b,u,c,z)
 | _=>none
structure OuAt(J:Env)(N:Bn)(w:World)(s:Sy.St)(l:Nat)(ty:TypeId)(fl:Nat)(a b u c z:Tm)(F:List Nat):Prop where
 mem:ownB l fl 0 ty (ouT a b u c z)∈s.hp
 lt:l+1<s.nx
 P:OuP w (N l) F (ouD J a b u c z)
 F:∀ i,(N fl).testBit i=true↔i∈F
theorem bx9{J:Env}(hO:J.o=cnO){N:Bn}{w:World}{s:Sy.St}{l:Nat}{ty:TypeId}{fl:Nat}{a b u c z:Tm}(h:ouC s l=some (ty,fl,a,b,u,c,z))(hb:∀ b∈s.hp,BkOk J N w b):∃ F,OuAt J N w s l ty fl a b u c z F:=by
 unfold ouC at h;split at h
 .rename_i ty' fl' a' b' u' c' z' hg;injection h with h;injection h with h1 h;injection h with h2 h;injection h with h3 h;injection h with h4 h;injection h with h5 h;injection h with h6 h7;subst h1 h2 h3 h4 h5 h6 h7;obtain⟨hm,hl⟩:=ak6 hg;have B:(J.o 0).P w (N l) (fun i=>(N fl').testBit i=true) (u9 J (ouT a' b' u' c' z')).c:=hb _ hm;rw[hO]at B;obtain⟨F,hP,hF⟩:=B;exact⟨F,hm,hl,hP,hF⟩
 .cases h
def szN(c:Cx)(a:Tm):List Tm:=F9 c (.le (Q6 c a) qfi)
theorem cb3{J:Env}{c:Cx}(hc:c.ok J){a:Tm}(h:Sy.Met J (szN c a)):(u9 J a).s.size<=576460752303423488:=by
 have:=B2 (z0 hc h);rw[Q8 hc]at this;have e:(u9 J qfi).i=576460752303423488:=rfl;omega
theorem dy2{J:Env}(hO:J.o=cnO){N:Bn}{w w':World}{s:Sy.St}{l:Nat}{ty:TypeId}{fl:Nat}{a b u c z:Tm}{F:List Nat}(A:OuAt J N w s l ty fl a b u c z F){t':Tm}{o':Ou}(ht:aM5 (hd (u9 J t'))=o')(hG:ay0 w w' (N l) F o'):
 ∃ N',Chg J N N' w w' s [] [] [] (some (ownB l s.nx 0 ty t')):=by
 obtain⟨F',hP,ho,hf⟩:=hG;refine⟨_,au0 A.lt (aI _) A.mem A.F (F':=F') ?_ ho hf⟩;rw[hO];exact⟨F',ht ▸ hP,fun i=>Iff.rfl⟩
def a76(ans:Cx->Tm->Tm->Tm->Tm->Tm->SV)(bs:Cx->Tm->Tm->Tm->Tm->Tm->List Bd)(s:Sy.St):List SV->Option Did
 | [.one (.c (.ptr l 0))]=>match ouC s l with
   | some (ty,fl,a,b,u,c,z)=>some ⟨szN s.cx a,[],[],[],ans s.cx a b u c z,bs s.cx a b u c z,none⟩
   | none=>none
 | _=>none
def cN9:Cx->Tm->Tm->Tm->Tm->Tm->List Bd:=fun _ _ _ _ _ _=>[]
theorem av6{J:Env}(hO:J.o=cnO){f:FuncId}{ans:Cx->Tm->Tm->Tm->Tm->Tm->SV}{bs:Cx->Tm->Tm->Tm->Tm->Tm->List Bd}(V:Ou->Value)
 (H:∀{w g F o},OuP w g F o->o.all.size<=576460752303423488->Calls prog f #[.pointer (some ⟨g,0,none⟩)] w (F7 fun v w'=>v=V o/\Below w.heap.size w w'))
 (hV:∀{c a b u d z N},c.ok J->(ans c a b u d z).A1 J N=V (ouD J a b u d z)) (hB:∀{c a b u d z w g F},c.ok J->OuP w g F (ouD J a b u d z)->(u9 J a).s.size<=576460752303423488->X5 J (bs c a b u d z)):(R4 f (a76 ans bs)).Ok prog J:=by
 refine U1 fun{s xs d} hs hc hm {N w} hb hne=>?_
 unfold a76 at hs;split at hs
 .rename_i l;split at hs
  .rename_i ty fl a b u c z ho;injection hs with hs;subst hs;have hz:=cb3 hc hm;obtain⟨F,A⟩:=bx9 hO ho hb;refine⟨hB hc A.P hz,?_⟩;refine(H A.P hz).mono ?_;rintro e w' ⟨v,rfl,rfl,hbel⟩;exact⟨N,by rw[hV hc],bX5 hbel⟩
  .cases hs
 .cases hs
theorem aG5(J:Env):X5 J []:=fun x hx=>by cases hx
def aw1(n:Int):Value:= .int .i64 n
def sI1(t:Tm):SV:= .one (.c (.int .i64 t))
def dK0:Sy.Spec:=R4 83 (a76 (fun _ _ _ u _ _=>sI1 u) cN9)
def dP8:Sy.Spec:=R4 43 (a76 (fun _ _ _ _ c _=>sI1 c) cN9)
def dK7:Sy.Spec:=R4 41 (a76 (fun _ _ _ _ _ z=>sI1 z) cN9)
def c09(c:Cx)(a b:Tm):Tm:=U0 (U0 (Q6 c a) l9) (aw2 c b)
def dO8:Sy.Spec:=R4 88 (a76 (fun c a b _ _ _=>sI1 (c09 c a b)) cN9)
def cd2:Sy.Spec:=R4 80 (a76 (fun _ a b u c z=>sI1 (.ap 115 (ouT a b u c z) i9 i9)) fun _ a b u c z=>[⟨.ap 115 (ouT a b u c z) i9 i9,0,2048⟩])
theorem df7{J:Env}{c:Cx}(hc:c.ok J)(a b:Tm):(u9 J (c09 c a b)).i=((u9 J a).s.size:Int)+1+b2 (u9 J b).b:=by
 unfold c09;rw[X2,X2,Q8 hc,az4 hc];rfl
theorem cD4{w:World}{g:Nat}{F:List Nat}{o:Ou}(h:OuP w g F o):0<=o.aS5/\o.aS5<=2048:=by
 obtain⟨gb,cap,bytes,base,h1,h2,h3,h4,rfl⟩:=h;have:=bg9 (gb:=0) (cap:=0) h4;have h5:=h4.s1;unfold Ou.aS5;split
 .decide
 .omega
section
variable{J:Env}(hf:J.f=cnF)(hO:J.o=cnO)
include hO
theorem ct7:dK0.Ok prog J:=av6 hO (fun o=>aw1 o.una) dy0 (fun _=>rfl) fun _ _ _=>aG5 _
theorem c49:dP8.Ok prog J:=av6 hO (fun o=>aw1 o.cur) dy4 (fun _=>rfl) fun _ _ _=>aG5 _
theorem cu9:dK7.Ok prog J:=av6 hO (fun o=>aw1 o.snt) db6 (fun _=>rfl) fun _ _ _=>aG5 _
theorem c12:dO8.Ok prog J:=av6 hO (fun o=>aw1 o.fen) dy3 (fun hc=>aD3 (df7 hc _ _)) fun _ _ _=>aG5 _
include hf
theorem cd1:cd2.Ok prog J:=by
 refine av6 hO (fun o=>aw1 o.aS5) db7 (fun{c a b u d z N} hc=>?_) fun{c a b u d z w g F} hc hP hz x hx=>?_
 .exact aD3 (by rw[F3 hf];rfl)
 .rw[ah.1 hx];show 0<=(u9 J (.ap 115 _ _ _)).i/\(u9 J (.ap 115 _ _ _)).i<=2048;rw[F3 hf];exact cD4 hP
end
def az1(args:Sy.St->List SV->Option (List Tm × Tm × Tm))(t':Cx->(Tm × Tm)->Tm->Tm->Tm->Tm->Tm->Tm)(ans:Cx->(Tm × Tm)->Tm->Tm->Tm->Tm->Tm->SV)(bs:Cx->(Tm × Tm)->Tm->Tm->Tm->Tm->Tm->List Bd)(s:Sy.St):List SV->Option Did
 | .one (.c (.ptr l 0))::xs=>match ouC s l,args s xs with
   | some (ty,fl,a,b,u,c,z),some (m,x)=>some ⟨szN s.cx a++m,[],[],[],ans s.cx x a b u c z,bs s.cx x a b u c z,some (ownB l s.nx 0 ty (t' s.cx x a b u c z))⟩
   | _,_=>none
 | _=>none
theorem ak7{J:Env}(hO:J.o=cnO){f:FuncId}{args:Sy.St->List SV->Option (List Tm × Tm × Tm)}{t':Cx->(Tm × Tm)->Tm->Tm->Tm->Tm->Tm->Tm}{ans:Cx->(Tm × Tm)->Tm->Tm->Tm->Tm->Tm->SV}{bs:Cx->(Tm × Tm)->Tm->Tm->Tm->Tm->Tm->List Bd}
 (H:∀{s xs m x a b u d z},s.cx.ok J->args s xs=some (m,x)->Sy.Met J m->(u9 J a).s.size<=576460752303423488->
   (∀{w:World} {g:Nat} {F:List Nat} {N:Bn},OuP w g F (ouD J a b u d z)->X5 J (bs s.cx x a b u d z)/\(∀ N',(ans s.cx x a b u d z).A1 J N'=(ans s.cx x a b u d z).A1 J N)/\
     Calls prog f (#[.pointer (some ⟨g,0,none⟩)]++(xs.map (SV.A1 J N)).toArray) w (F7 fun v w'=>v=(ans s.cx x a b u d z).A1 J N/\ay0 w w' g F (aM5 (hd (u9 J (t' s.cx x a b u d z))))))):(R4 f (az1 args t' ans bs)).Ok prog J:=by
 refine U1 fun{s xs d} hs hc hm {N w} hb hne=>?_
 unfold az1 at hs;split at hs
 .rename_i l xs;split at hs
  .rename_i ty fl a b u c z m x ho ha;injection hs with hs;subst hs;have hz:=cb3 hc hm.l;obtain⟨F,A⟩:=bx9 hO ho hb;obtain⟨h1,h2,h3⟩:=H hc ha hm.r hz (N:=N) A.P;refine⟨h1,?_⟩;have e:((.one (.c (.ptr l 0))::xs).map (SV.A1 J N)).toArray=#[.pointer (some ⟨N l,0,none⟩)]++(xs.map (SV.A1 J N)).toArray:=by simp;rfl
   rw[e];refine h3.mono ?_;rintro e w' ⟨v,rfl,rfl,hG⟩;obtain⟨N',hC⟩:=dy2 hO A rfl hG;exact⟨N',by rw[h2 N'],hC⟩
  .cases hs
 .cases hs
def no2:Tm × Tm:=(.il 0, .il 0)
def dP9:Sy.Spec:=R4 79 (az1 (fun _ xs=>match xs with| []=>some ([],no2)|_=>none) (fun _ _ a b u c z=>ouT a l6 u c z) (fun _ _ _ _ _ _ _=> .tup []) fun _ _ _ _ _ _ _=>[])
def dQ2:Sy.Spec:=R4 98 (az1 (fun _ xs=>match xs with| []=>some ([],no2)|_=>none) (fun _ _ a b u c z=>ouT a b u u z) (fun _ _ _ _ _ _ _=> .tup []) fun _ _ _ _ _ _ _=>[])
def wrN(s a b u c z:Tm):Tm:= .ap 116 (ouT a b u c z) s i9
def dJ7:Sy.Spec:=R4 71 (az1 (fun s xs=>match xs with| [.one (.c (.str t))]=>some (F9 s.cx (.le (Q6 s.cx t) qb2),t, .il 0)|_=>none) (fun _ x a b u c z=>ouT (.app a (.cut x.1 i9 (wrN x.1 a b u c z))) b u c z) (fun _ x a b u c z=>sI1 (wrN x.1 a b u c z)) fun _ x a b u c z=>[⟨wrN x.1 a b u c z,0,2048⟩,⟨.len (.app a (.cut x.1 i9 (wrN x.1 a b u c z))),0,1152921504606846976⟩])
def aU6(c:Cx)(a:Tm):List Tm:=F9 c (.le (.il (-9223372036854775808)) a)++F9 c (.le a qb2)
theorem aE4{J:Env}{c:Cx}(hc:c.ok J){a:Tm}(h:Sy.Met J (aU6 c a)): -9223372036854775808<=(u9 J a).i/\(u9 J a).i<=9223372036854775807:=⟨B2 (z0 hc h.l),B2 (z0 hc h.r)⟩
def K59(t:Tm):Bd:=⟨t,0,1152921504606846976⟩
def acU(x a b u c z:Tm):Tm:= .ap 118 (ouT a b u c z) x i9
def acC(x a b u c z:Tm):Tm:= .ap 119 (ouT a b u c z) x i9
def acN(x a b u c z:Tm):Tm:= .ap 117 (ouT a b u c z) x i9
def dQ3:Sy.Spec:=R4 119 (az1 (fun s xs=>match xs with| [.one (.c (.int .i64 t))]=>some (aU6 s.cx t,t, .il 0)|_=>none) (fun _ x a b u c z=>ouT a b (acU x.1 a b u c z) (acC x.1 a b u c z) z) (fun _ x a b u c z=>sI1 (acN x.1 a b u c z)) fun _ x a b u c z=>[K59 (acN x.1 a b u c z),K59 (acU x.1 a b u c z),K59 (acC x.1 a b u c z)])
def pr2(x y:Tm):Tm:=zI x (zI y qao)
def cN1(o lo limit mss:Tm):SV:= .tup [.agg [.int .i64 (.ap 110 o lo (pr2 limit mss)), .bool (.ap 111 o lo (pr2 limit mss)), .bool (.ap 112 o lo (pr2 limit mss)), .str (.ap 113 o lo (pr2 limit mss))], .c (.bool (.ap 114 o lo (pr2 limit mss)))]
def cN2(o lo limit mss:Tm):List Bd:=[K59 (.ap 110 o lo (pr2 limit mss)),⟨.len (.ap 113 o lo (pr2 limit mss)),0,2048⟩]
def nxC(x y a b u c z:Tm):Tm:= .ap 128 (ouT a b u c z) x y
def nxZ(x y a b u c z:Tm):Tm:= .ap 129 (ouT a b u c z) x y
def dL9:Sy.Spec:=R4 42 (az1 (fun s xs=>match xs with| [.one (.c (.int .i64 t)), .one (.c (.int .i64 r))]=>some (aU6 s.cx t++aU6 s.cx r,t,r)|_=>none) (fun _ x a b u c z=>ouT a b u (nxC x.1 x.2 a b u c z) (nxZ x.1 x.2 a b u c z)) (fun _ x a b u c z=>cN1 (ouT a b u c z) c x.1 x.2) fun _ x a b u c z=>cN2 (ouT a b u c z) c x.1 x.2++[K59 (nxC x.1 x.2 a b u c z),K59 (nxZ x.1 x.2 a b u c z)])
def dO6:Sy.Spec:=R4 38 (az1 (fun s xs=>match xs with| [.one (.c (.int .i64 t))]=>some (aU6 s.cx t,t, .il 0)|_=>none) (fun _ _ a b u c z=>ouT a b u c z) (fun _ x a b u c z=>cN1 (ouT a b u c z) u z x.1) fun _ x a b u c z=>cN2 (ouT a b u c z) u z x.1)
theorem OuP.bd{w:World}{g:Nat}{F:List Nat}{o:Ou}(h:OuP w g F o):0<=o.una/\o.una<=o.cur/\o.cur<=o.snt/\o.snt<=o.fen:=by
 obtain⟨gb,cap,bytes,base,h1,h2,h3,h4,rfl⟩:=h;exact⟨h4.a0,h4.a1,h4.a2,h4.a3⟩
theorem OuP.ec9{w:World}{g:Nat}{F:List Nat}{o:Ou}(h:OuP w g F o)(hz:o.all.size<=576460752303423488){lo limit mss:Int}(hlo:o.una<=lo):((o.aD6 lo limit mss).size:Int)<=2048:=by
 obtain⟨gb,cap,bytes,base,I,rfl⟩:=h.ae8 hz aU5 aU5 aZ4;exact I.cK4 _ _ _ hlo
theorem cE6{J:Env}(hf:J.f=cnF){w:World}{g:Nat}{F:List Nat}{a b u c z lo limit mss:Tm}(h:OuP w g F (ouD J a b u c z))(hz:(u9 J a).s.size<=576460752303423488)(h0:(u9 J u).i<=(u9 J lo).i)(h1:(u9 J lo).i<=(u9 J z).i):X5 J (cN2 (ouT a b u c z) lo limit mss):=by
 have hb:=h.bd;have hz':(ouD J a b u c z).fen<=576460752303423490:=by
  unfold Ou.fen;have:=aL3 (ouD J a b u c z).shut;have e:(ouD J a b u c z).all.size=(u9 J a).s.size:=rfl;omega
 have hu:(ouD J a b u c z).una=(u9 J u).i:=rfl;have hs:(ouD J a b u c z).snt=(u9 J z).i:=rfl;intro x hx;rcases aa.1 hx with rfl|hx
 .show 0<=(u9 J (.ap 110 _ _ _)).i/\(u9 J (.ap 110 _ _ _)).i<=1152921504606846976;rw[F3 hf];show 0<=(ouD J a b u c z).pAt (u9 J lo).i _ _/\(ouD J a b u c z).pAt (u9 J lo).i _ _<=1152921504606846976;unfold Ou.pAt;split<;>omega
 .rw[ah.1 hx];show(0:Int)<=((u9 J (.ap 113 _ _ _)).s.size:Int)/\((u9 J (.ap 113 _ _ _)).s.size:Int)<=2048;rw[F3 hf];exact⟨Int.natCast_nonneg _,h.ec9 hz h0⟩
theorem pcV'_den{J:Env}(hf:J.f=cnF)(N:Bn)(a b u c z lo limit mss:Tm):(cN1 (ouT a b u c z) lo limit mss).A1 J N=(ouD J a b u c z).pV (u9 J lo).i (u9 J limit).i (u9 J mss).i:=by
 show Value.tuple #[.agg #[.int .i64 (u9 J (.ap 110 _ _ _)).i, .bool (u9 J (.ap 111 _ _ _)).b, .bool (u9 J (.ap 112 _ _ _)).b, .string (u9 J (.ap 113 _ _ _)).s], .bool (u9 J (.ap 114 _ _ _)).b]=_;rw[F3 hf,F3 hf,F3 hf,F3 hf,F3 hf];rfl
section
variable{J:Env}(hf:J.f=cnF)(hO:J.o=cnO)
include hO
theorem c50:dP9.Ok prog J:=by
 refine ak7 hO fun{s xs m x a b u d z} hc ha hm hz {w g F N} hP=>⟨aG5 _,fun _=>rfl,?_⟩
 split at ha
 .exact ch0 hP hz
 .cases ha
theorem c58:dQ2.Ok prog J:=by
 refine ak7 hO fun{s xs m x a b u d z} hc ha hm hz {w g F N} hP=>⟨aG5 _,fun _=>rfl,?_⟩
 split at ha
 .exact db9 hP hz
 .cases ha
include hf
omit hO in
theorem br5(s a b u c z:Tm):(u9 J (wrN s a b u c z)).i=min ((u9 J s).s.size:Int) (ouD J a b u c z).aS5:=by
 unfold wrN;rw[F3 hf];rfl
theorem ct2:dJ7.Ok prog J:=by
 refine ak7 hO fun{s xs m x a b u d z} hc ha hm hz {w g F N} hP=>?_
 split at ha
 .rename_i t;injection ha with ha;injection ha with h1 h2;subst h1 h2;have ht:=B2 (z0 hc hm);rw[Q8 hc]at ht;have ht':(u9 J t).s.size<=9223372036854775807:=by
   have e:(u9 J qb2).i=9223372036854775807:=rfl;omega
  have hr:=cD4 hP;refine⟨fun x hx=>?_,fun _=>rfl,?_⟩
  .rcases aa.1 hx with rfl|hx
   .show 0<=(u9 J (wrN t a b u d z)).i/\(u9 J (wrN t a b u d z)).i<=2048;rw[br5 hf];omega
   .rw[ah.1 hx];show(0:Int)<=(((u9 J a).s++(u9 J t).s.extract 0 (u9 J (wrN t a b u d z)).i.toNat).size:Int)/\(((u9 J a).s++(u9 J t).s.extract 0 (u9 J (wrN t a b u d z)).i.toNat).size:Int)<=1152921504606846976;rw[br5 hf,aR];simp;omega
  .refine(cx7 hP hz ht').mono ?_;rintro e w' ⟨v,rfl,rfl,hG⟩;refine⟨_,rfl,aD3 (br5 hf t a b u d z).symm,?_⟩;show ay0 w w' g F ⟨(u9 J a).s++(u9 J t).s.extract 0 (u9 J (wrN t a b u d z)).i.toNat,(u9 J b).b,(u9 J u).i,(u9 J d).i,(u9 J z).i⟩;rw[br5 hf];exact hG
 .cases ha
theorem c78:dQ3.Ok prog J:=by
 refine ak7 hO fun{s xs m x a b u d z} hc ha hm hz {w g F N} hP=>?_
 split at ha
 .rename_i t;injection ha with ha;injection ha with h1 h2;subst h1 h2;have ht:=aE4 hc hm;have hb:=hP.bd;have e1:(u9 J (acN t a b u d z)).i=(ouD J a b u d z).ad1 (u9 J t).i:=by unfold acN;rw[F3 hf];rfl
  have e2:(u9 J (acU t a b u d z)).i=((ouD J a b u d z).ack (u9 J t).i).una:=by unfold acU;rw[F3 hf];rfl
  have e3:(u9 J (acC t a b u d z)).i=((ouD J a b u d z).ack (u9 J t).i).cur:=by unfold acC;rw[F3 hf];rfl
  have hfe:(ouD J a b u d z).fen<=576460752303423490:=by
   unfold Ou.fen;have:=aL3 (ouD J a b u d z).shut;have e:(ouD J a b u d z).all.size=(u9 J a).s.size:=rfl;omega
  refine⟨fun x hx=>?_,fun _=>rfl,?_⟩
  .rcases aa.1 hx with rfl|hx
   .show 0<=(u9 J (acN t a b u d z)).i/\(u9 J (acN t a b u d z)).i<=1152921504606846976;rw[e1];unfold Ou.ad1;split<;>omega
   rcases aa.1 hx with rfl|hx
   .show 0<=(u9 J (acU t a b u d z)).i/\(u9 J (acU t a b u d z)).i<=1152921504606846976;rw[e2];unfold Ou.ack;split
    .omega
    .simp only;omega
   .rw[ah.1 hx];show 0<=(u9 J (acC t a b u d z)).i/\(u9 J (acC t a b u d z)).i<=1152921504606846976;rw[e3];unfold Ou.ack;split
    .omega
    .simp only;omega
  .refine(dy5 hP hz ht).mono ?_;rintro e w' ⟨v,rfl,rfl,hG⟩;refine⟨_,rfl,aD3 e1.symm,?_⟩;show ay0 w w' g F ⟨(u9 J a).s,(u9 J b).b,(u9 J (acU t a b u d z)).i,(u9 J (acC t a b u d z)).i,(u9 J z).i⟩;rw[e2,e3];have:(ouD J a b u d z).ack (u9 J t).i=⟨(u9 J a).s,(u9 J b).b,((ouD J a b u d z).ack (u9 J t).i).una,((ouD J a b u d z).ack (u9 J t).i).cur,(u9 J z).i⟩:=by
    unfold Ou.ack;split<;>rfl
   rw[<-this];exact hG
 .cases ha
theorem cy5:dL9.Ok prog J:=by
 refine ak7 hO fun{s xs m x a b u d z} hc ha hm hz {w g F N} hP=>?_
 split at ha
 .rename_i t r;injection ha with ha;injection ha with h1 h2;subst h1 h2;have ht:=aE4 hc hm.l;have hr:=aE4 hc hm.r;have hb:=hP.bd;have e2:(u9 J (nxC t r a b u d z)).i=(ouD J a b u d z).aB6 (u9 J t).i (u9 J r).i:=by unfold nxC;rw[F3 hf];rfl
  have e3:(u9 J (nxZ t r a b u d z)).i=max (ouD J a b u d z).snt ((ouD J a b u d z).aB6 (u9 J t).i (u9 J r).i):=by unfold nxZ;rw[F3 hf];rfl
  have hfe:(ouD J a b u d z).fen<=576460752303423490:=by
   unfold Ou.fen;have:=aL3 (ouD J a b u d z).shut;have e:(ouD J a b u d z).all.size=(u9 J a).s.size:=rfl;omega
  obtain⟨p1,p2,p3⟩:=(ouD J a b u d z).cK5 (limit:=(u9 J t).i) (mss:=(u9 J r).i) U U;refine⟨fun x hx=>?_,fun _=>rfl,?_⟩
  .rcases aC.1 hx with hx|hx
   .exact cE6 hf hP hz hb.2.1 hb.2.2.1 x hx
   rcases aa.1 hx with rfl|hx
   .show 0<=(u9 J (nxC t r a b u d z)).i/\(u9 J (nxC t r a b u d z)).i<=1152921504606846976;rw[e2];omega
   .rw[ah.1 hx];show 0<=(u9 J (nxZ t r a b u d z)).i/\(u9 J (nxZ t r a b u d z)).i<=1152921504606846976;rw[e3];omega
  .refine(db8 hP hz ht hr).mono ?_;rintro e w' ⟨v,rfl,rfl,hG⟩;refine⟨_,rfl,(pcV'_den hf N ..).symm,?_⟩;show ay0 w w' g F ⟨(u9 J a).s,(u9 J b).b,(u9 J u).i,(u9 J (nxC t r a b u d z)).i,(u9 J (nxZ t r a b u d z)).i⟩;rw[e2,e3];exact hG
 .cases ha
theorem c08:dO6.Ok prog J:=by
 refine ak7 hO fun{s xs m x a b u d z} hc ha hm hz {w g F N} hP=>?_
 split at ha
 .rename_i t;injection ha with ha;injection ha with h1 h2;subst h1 h2;have ht:=aE4 hc hm;have hb:=hP.bd;refine⟨cE6 hf hP hz (aF _) (show(ouD J a b u d z).una<=(ouD J a b u d z).snt by omega),fun _=>rfl,?_⟩;refine(cx8 hP hz ht).mono ?_;rintro e w' ⟨v,rfl,rfl,hbel⟩;exact⟨_,rfl,(pcV'_den hf N ..).symm,F,hP.dJ0 fun i hi=>hbel.block i (hP.lt i hi),Only.aa7 hbel _,fun i hi=> .inl hi⟩
 .cases ha
end
end Go.Proofs.YtnlcpcmdlcakgaaGreat
