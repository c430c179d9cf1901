/- A part of the proof that a connection answers as the document says: CnN CnU CnV Cf2. -/
import Derived.Test.YtnlcpcmdlcakgaaGreatKh28
set_option maxRecDepth 100000
set_option maxHeartbeats 4000000
set_option linter.unusedVariables false
set_option linter.unusedSimpArgs false
set_option linter.unusedSectionVars false
open Go.Proofs.Tryz
namespace Go.Proofs.YtnlcpcmdlcakgaaGreat
open Go.RowKit Sy
def eZ6(nx:Nat):Bk:=ownB nx (nx+1) 1 132 (ac7 l9 i9 tn)
def eY9(nx:Nat):Bk:=ownB nx (nx+1) 0 110 (ouT p9 l4 i9 i9 i9)
def eW6(nx:Nat):Bk:=ownB nx (nx+1) 2 120 (tmC (.il (-1)) i9 i9)
def ah9(b:Nat->Bk)(s:Sy.St):List SV->Option Did
 | []=>some ⟨[],[],[],[b s.nx], .one (.c (.ptr s.nx 0)),[],none⟩
 | _=>none
def bh4:Sy.Spec:=R4 93 (ah9 eZ6)
def bg4:Sy.Spec:=R4 57 (ah9 eY9)
def be9:Sy.Spec:=R4 58 (ah9 eW6)
theorem a77{J:Env}(hO:J.o=cnO){f:FuncId}{j:Nat}{ty:TypeId}{t:Tm}(H:∀ w:World,Calls prog f #[] w (F7 fun v w'=>∃ g,v= .pointer (some ⟨g,0,none⟩)/\w.heap.size<=g/\(cnO j).P w' g (fun i=>i∈[g]) (u9 J t).c/\Below w.heap.size w w')):(R4 f (ah9 fun n=>ownB n (n+1) j ty t)).Ok prog J:=by
 refine U1 fun{s xs d} hs hc hm {N w} hb hne=>?_
 unfold ah9 at hs;split at hs
 .injection hs with hs;subst hs;refine⟨aG5 _,?_⟩;refine(H w).mono ?_;rintro e w' ⟨v,rfl,g,rfl,hg,hP,hbel⟩;have e0:E8 (E8 N s.nx g) (s.nx+1) (X3 [g]) s.nx=g:=by rw[B3 U,K7]
  have e1:E8 (E8 N s.nx g) (s.nx+1) (X3 [g]) (s.nx+1)=X3 [g]:=K7 ..;refine⟨E8 (E8 N s.nx g) (s.nx+1) (X3 [g]),?_,Only.aa7 hbel _,fun l hl=>by rw[B3 U,B3 U],fun b hb=>bG,fun b hb'=>?_,fun b hb=>bG,fun b hb' hr q hq=>?_,fun x hx y hy hxy=>?_,fun b hb c hc=>(by cases hc)⟩
  .show _=Ending.returned (.pointer (some ⟨_,0,none⟩));rw[e0]
  .rw[ah.1 hb'];show(J.o j).P w' (E8 (E8 N s.nx g) (s.nx+1) (X3 [g]) s.nx) (fun i=>(E8 (E8 N s.nx g) (s.nx+1) (X3 [g]) (s.nx+1)).testBit i=true) _;rw[e0,e1,hO,ai4];exact hP
  .rw[ah.1 hb']at hq;refine .inr ?_;have:=(ao7 (j:=j) (ty:=ty) (t:=t) (F:=[g]) e1 (by rw[e0];exact ah.2 rfl) q).1 hq;rw[ah.1 this];exact hg
  .rw[ah.1 hx,ah.1 hy]at hxy;exact absurd rfl hxy
 .cases hs
theorem dc0:smR prog f57 4 (R6 prog [] 10 400 4 (.code (y7 f57)) (L3 f57 [] ⟨[],[],⟨[],[]⟩,4⟩))=some [(.ret qfn [⟨4,110,[.nslc,(.int .i64 l9),(.int .i64 i9),(.int .i64 i9),(.int .i64 i9),(.bool l4)],true, .none, .no⟩] [])]:=by kernel_rfl
theorem dT5:smR prog f58 4 (R6 prog [] 10 400 4 (.code (y7 f58)) (L3 f58 [] ⟨[],[],⟨[],[]⟩,4⟩))=some [(.ret qfn [⟨4,120,[(.bool l4),(.int .i64 i9),(.int .i64 i9),(.int .i64 i9)],true, .none, .no⟩] [])]:=by kernel_rfl
theorem dy1(w:World):Calls prog 57 #[] w (F7 fun v w'=>∃ g,v= .pointer (some ⟨g,0,none⟩)/\w.heap.size<=g/\OuP w' g [g] ⟨K4,false,0,0,0⟩/\Below w.heap.size w w'):=by
 have hM:Md (U9 [] [] [] []) (fun _=>False) w (fun _=>0) 4 ⟨[],[],⟨[],[]⟩,4⟩ (fun _=>0) ⟨#[],[]⟩ w:=Sy.Md.aj5 ⟨fun _ h=>bF,fun _ h=>bF⟩;refine W3 (B:=⟨U9 [] [] [] [],fun _=>False,w,fun _=>0,4⟩) (sp:=[]) (fun i=>rfl) (fun q hq=>by cases hq) 10 400 func57 rfl [] ⟨[],[],⟨[],[]⟩,4⟩ _ 4 rfl dc0 hM ⟨?_,trivial⟩ rfl;intro _ N w2 hH;refine⟨N 4,rfl,?_,⟨0,0,K4,1,hH.hp _ (ae ..),⟨fun h=>absurd rfl h,aI _⟩,fun h=>absurd rfl h,⟨rfl,rfl,rfl,by decide,by decide,by decide,by decide,by decide,by decide⟩,rfl⟩,Sy.Only.R9 hH.only⟩;exact(hH.bC9 _ (ae ..) rfl (.inl rfl)).elim (fun h=>h.elim) (fun h=>h)
theorem ds8(w:World):Calls prog 58 #[] w (F7 fun v w'=>∃ g,v= .pointer (some ⟨g,0,none⟩)/\w.heap.size<=g/\TmP w' g (-1) 0 0/\Below w.heap.size w w'):=by
 have hM:Md (U9 [] [] [] []) (fun _=>False) w (fun _=>0) 4 ⟨[],[],⟨[],[]⟩,4⟩ (fun _=>0) ⟨#[],[]⟩ w:=Sy.Md.aj5 ⟨fun _ h=>bF,fun _ h=>bF⟩;refine W3 (B:=⟨U9 [] [] [] [],fun _=>False,w,fun _=>0,4⟩) (sp:=[]) (fun i=>rfl) (fun q hq=>by cases hq) 10 400 func58 rfl [] ⟨[],[],⟨[],[]⟩,4⟩ _ 4 rfl dT5 hM ⟨?_,trivial⟩ rfl;intro _ N w2 hH;refine⟨N 4,rfl,?_,⟨false,0,hH.hp _ (ae ..),by decide,by decide, .inl ⟨rfl,rfl⟩⟩,Sy.Only.R9 hH.only⟩;exact(hH.bC9 _ (ae ..) rfl (.inl rfl)).elim (fun h=>h.elim) (fun h=>h)
section
variable{J:Env}(hO:J.o=cnO)
include hO
theorem bY0:bh4.Ok prog J:=a77 hO fun w=>(de6 w).mono fun e w' ⟨v,h1,g,h2,h3,h4,h5⟩=>⟨v,h1,g,h2,h3,⟨h4,fun i=>ah⟩,h5⟩
theorem bX4:bg4.Ok prog J:=a77 hO fun w=>(dy1 w).mono fun e w' ⟨v,h1,g,h2,h3,h4,h5⟩=>⟨v,h1,g,h2,h3,⟨[g],h4,fun i=>Iff.rfl⟩,h5⟩
theorem bV5:be9.Ok prog J:=a77 hO fun w=>(ds8 w).mono fun e w' ⟨v,h1,g,h2,h3,h4,h5⟩=>⟨v,h1,g,h2,h3,⟨h4,fun i=>ah⟩,h5⟩
end
def bt3(ty:TypeId)(s:Sy.St):List SV->Option Did
 | [.one (.c (.int .i64 m))]=>some ⟨F9 s.cx (.le (.il 8) m)++F9 s.cx (.le m (.il 1000)),[],[],[av0 s.nx ty m (.mul u0 m) u7], .tup [.c (.ptr s.nx 0), .c (.int .i64 i9)],[],none⟩
 | _=>none
def bh8:Sy.Spec:=R4 94 (bt3 137)
def bP6:Sy.Spec:=R4 96 (bt3 94)
theorem b06{J:Env}{f:FuncId}{ty:TypeId}(H:∀(m:Int) (w:World),8<=m->m<=1000->Calls prog f #[.int .i64 m] w (F7 fun v w'=>∃ g,v= .tuple #[.pointer (some ⟨g,0,none⟩), .int .i64 0]/\w.heap.size<=g/\Blk w' g ty (aO4 m (2*m) 65535)/\Below w.heap.size w w')):(R4 f (bt3 ty)).Ok prog J:=by
 refine U1 fun{s xs d} hs hc hm {N w} hb hne=>?_
 unfold bt3 at hs;split at hs
 .rename_i m;injection hs with hs;subst hs;refine⟨aG5 _,?_⟩;have h1:8<=(u9 J m).i:=B2 (z0 hc hm.l);have h2:(u9 J m).i<=1000:=B2 (z0 hc hm.r);refine(H _ w h1 h2).mono ?_;rintro e w' ⟨v,rfl,g,rfl,hg,hB,hbel⟩;refine⟨E8 N s.nx g,?_,Only.aa7 hbel _,fun l hl=>B3 U,fun b hb=>bG,fun b hb'=>?_,fun b hb=>bG,fun b hb' hr q hq=>?_,fun x hx y hy hxy=>?_,fun b hb c hc=>(by cases hc)⟩
  .show _=Ending.returned (.tuple #[.pointer (some ⟨E8 N s.nx g s.nx,0,none⟩), .int .i64 0]);rw[K7]
  .rw[ah.1 hb'];show Blk w' (E8 N s.nx g s.nx) ty (aO4 _ _ _);rw[K7];exact hB
  .rw[ah.1 hb']at hq;refine .inr ?_;rw[Q9 (b:=av0 s.nx ty m (.mul u0 m) u7) rfl hq];show _<=E8 N s.nx g s.nx;rw[K7];exact hg
  .rw[ah.1 hx,ah.1 hy]at hxy;exact absurd rfl hxy
 .cases hs
def cwS:Sy.St:=⟨[],[],⟨[⟨.iv 0,8,1000⟩],[]⟩,4⟩
theorem dh2:smR prog f94 4 (R6 prog [] 10 400 4 (.code (y7 f94)) (L3 f94 [.one (.c (.int .i64 j9))] cwS))=some [(.ret (.tup [(.c (.ptr 4 0)),(.c (.int .i64 i9))]) [⟨4,137,[(.int .i64 j9),(.int .i64 (.mul u0 j9)),(.int .i64 u7)],true, .none, .no⟩] [])]:=by kernel_rfl
theorem cw2:smR prog f96 4 (R6 prog [] 10 400 4 (.code (y7 f96)) (L3 f96 [.one (.c (.int .i64 j9))] cwS))=some [(.ret (.tup [(.c (.ptr 4 0)),(.c (.int .i64 i9))]) [⟨4,94,[(.int .i64 j9),(.int .i64 (.mul u0 j9)),(.int .i64 u7)],true, .none, .no⟩] [])]:=by kernel_rfl
theorem eD6(m:Int)(w:World)(h1:8<=m)(h2:m<=1000):Calls prog 94 #[.int .i64 m] w (F7 fun v w'=>∃ g,v= .tuple #[.pointer (some ⟨g,0,none⟩), .int .i64 0]/\w.heap.size<=g/\Blk w' g 137 (aO4 m (2*m) 65535)/\Below w.heap.size w w'):=by
 have hM:Md (U9 [m] [] [] []) (fun _=>False) w (fun _=>0) 4 cwS (fun _=>0) ⟨#[],[]⟩ w:=Sy.Md.aj5 (cxP ⟨⟨h1,h2⟩,trivial⟩ trivial);refine W3 (B:=⟨U9 [m] [] [] [],fun _=>False,w,fun _=>0,4⟩) (sp:=[]) (fun i=>rfl) (fun q hq=>by cases hq) 10 400 func94 rfl [.one (.c (.int .i64 j9))] cwS _ 4 rfl dh2 hM ⟨?_,trivial⟩ rfl;intro _ N w2 hH;refine⟨N _,rfl,?_,hH.hp _ (ae ..),Sy.Only.R9 hH.only⟩;exact(hH.bC9 _ (ae ..) rfl (.inl rfl)).elim (fun h=>h.elim) (fun h=>h)
theorem dX9(m:Int)(w:World)(h1:8<=m)(h2:m<=1000):Calls prog 96 #[.int .i64 m] w (F7 fun v w'=>∃ g,v= .tuple #[.pointer (some ⟨g,0,none⟩), .int .i64 0]/\w.heap.size<=g/\Blk w' g 94 (aO4 m (2*m) 65535)/\Below w.heap.size w w'):=by
 have hM:Md (U9 [m] [] [] []) (fun _=>False) w (fun _=>0) 4 cwS (fun _=>0) ⟨#[],[]⟩ w:=Sy.Md.aj5 (cxP ⟨⟨h1,h2⟩,trivial⟩ trivial);refine W3 (B:=⟨U9 [m] [] [] [],fun _=>False,w,fun _=>0,4⟩) (sp:=[]) (fun i=>rfl) (fun q hq=>by cases hq) 10 400 func96 rfl [.one (.c (.int .i64 j9))] cwS _ 4 rfl cw2 hM ⟨?_,trivial⟩ rfl;intro _ N w2 hH;refine⟨N _,rfl,?_,hH.hp _ (ae ..),Sy.Only.R9 hH.only⟩;exact(hH.bC9 _ (ae ..) rfl (.inl rfl)).elim (fun h=>h.elim) (fun h=>h)
theorem bY8{J:Env}:bh8.Ok prog J:=b06 fun m w h1 h2=>eD6 m w h1 h2
theorem bN3{J:Env}:bP6.Ok prog J:=b06 fun m w h1 h2=>dX9 m w h1 h2
def ouK:Tm:=ouT y8 y6 w6 y4 y5
def wiK:Tm:=pr3 I6 k35 k36
abbrev qdj:Tm:= .ap 108 wiK i9 i9
abbrev qe8:Tm:= .ap 108 wiK (.sub j9 w6) i9
def akU:Tm:= .ap 118 ouK j9 i9
def akC:Tm:= .ap 119 ouK j9 i9
def akN:Tm:= .ap 117 ouK j9 i9
abbrev qgg:Tm:= .ap 108 wiK akN i9
def ar3:Tm:=pr2 k33 (.sub V8 k22)
abbrev qf5:Tm:= .ap 106 k31 k32 ar3
abbrev qf6:Tm:= .ap 105 k31 k32 ar3
abbrev qf7:Tm:= .ap 104 k31 k32 ar3
def syS:List Sy.Spec:=[bh4,bh8]
def sgB:List Bd:=[⟨.iv 0,0,4294967295⟩,⟨.iv 1,-9223372036854775808,9223372036854775807⟩,⟨.iv 2,0,4294967295⟩,⟨.iv 3,-9223372036854775808,9223372036854775807⟩,⟨.iv 4,0,4294967295⟩,⟨.iv 5,0,4294967295⟩,⟨.iv 6,0,65535⟩,⟨.iv 7,0,65535⟩,⟨.len l7,0,1000⟩]
def bv4:Tm:= .ite (.lt (.il 536) k8) (.il 536) k8
def a03:Tm:= .ite (.lt qed (.il 8)) (.il 8) qed 
abbrev qhe:List (Nat × Tm):=[⟨14,(.il (-1))⟩,⟨15,i9⟩,⟨16,i9⟩,⟨24,akU⟩,⟨25,akC⟩,⟨28,l6⟩,⟨35,qgg⟩]
theorem dk1:rnC prog f97 pcS [.one (.c (.int .i64 j9))] true (V5 true [⟨.iv 0,-9223372036854775808,9223372036854775807⟩])=some (fq8 [.b (.lt i9 k21),.b qgl,.l (.ret (.tup []) j8 [⟨14,(.il (-1))⟩,⟨15,i9⟩,⟨16,i9⟩,⟨21,i9⟩,⟨24,akU⟩,⟨25,akC⟩,⟨28,l6⟩,⟨31,qf7⟩,⟨32,qf6⟩,⟨33,qf5⟩,⟨35,qgg⟩] j5 j6),.l (.ret (.tup []) j8 (qhe) j5 j6),.l (.ret (.tup []) j8 (qhe) j5 j6)] [[]]):=by kernel_rfl
theorem dU8:rnC prog f55 syS [.one (.agg W9)] false (V5 false sgB)=some (fq8 [.b qg8,.l (.ret (.tup []) j8 [⟨7,n8⟩,⟨9,bv4⟩,⟨10,p7⟩,⟨28,l6⟩,⟨29,l9⟩,⟨30,i9⟩,⟨34,bv4⟩,⟨35,(.mul u0 bv4)⟩,⟨36,u7⟩] qbx j6),.p,.l (.must (.le (.il 8) a03)),.a (.le (.il 8) a03),.p,.l (.must (.le a03 (.il 1000))),.a (.le a03 (.il 1000)),.l (.ret (.tup []) j8 [⟨7,n8⟩,⟨9,a03⟩,⟨10,p7⟩,⟨28,l6⟩,⟨29,l9⟩,⟨30,i9⟩,⟨34,a03⟩,⟨35,(.mul u0 a03)⟩,⟨36,u7⟩] qbx j6)] [[]]):=by kernel_rfl
theorem dk5(c:Cn)(at_:Int):c.dJ3 at_= { c with una:=(c.ou.ack at_).una,cur:=(c.ou.ack at_).cur }:=by
 unfold Cn.dJ3 Ou.ack Cn.ou;simp only;split<;>rfl
theorem cb7(c:Cn)(r:Int):c.cA5 r= { c with mean:=(smp c.mean c.spr c.dbl r).1,spr:=(smp c.mean c.spr c.dbl r).2.1,dbl:=(smp c.mean c.spr c.dbl r).2.2 }:=by
 unfold Cn.cA5 smp;split
 .rfl
 .split<;>rfl
theorem aZ7(c:Cn)(at_:Int):c.V7 at_=if 0<c.meas/\c.meas<=at_ then{ c with una:=(c.ou.ack at_).una,cur:=(c.ou.ack at_).cur,mean:=(smp c.mean c.spr c.dbl (c.now - c.wen)).1,spr:=(smp c.mean c.spr c.dbl (c.now - c.wen)).2.1,dbl:=(smp c.mean c.spr c.dbl (c.now - c.wen)).2.2,meas:=0,cz:=aN3 c.cm c.cz c.cs (c.ou.ad1 at_),gone:=0,same:=0,clk:= -1,bg:=c.bgn }
 else{ c with una:=(c.ou.ack at_).una,cur:=(c.ou.ack at_).cur,cz:=aN3 c.cm c.cz c.cs (c.ou.ad1 at_),gone:=0,same:=0,clk:= -1,bg:=c.bgn }:=by
 have e:c.dS8 at_=c.ou.ad1 at_:=rfl;unfold Cn.V7 Cn.dS7;rw[dk5,cb7,e];split<;>rfl
theorem cC1{w:World}{g:Nat}{a:Pa}{X:Cs}(W:PcW w g a X)(hz:SzX X)(hr:RgX X.c)(hh:X.c.has=true){at_:Int}(h0: -9223372036854775808<=at_)(h1:at_<=9223372036854775807):
 Calls prog 97 #[.pointer (some ⟨g,0,none⟩), .int .i64 at_] w (F7 fun v w'=>v= .tuple #[]/\aS4 w w' g (X4 a g true) ⟨X.c.V7 at_,X.L,X.R⟩):=by
 have m0:=hr.r21;refine aA0 (is:=[at_]) (bs:=[]) (ss:=[]) (aR0 (L6 ..)) func97 rfl dk1 W hh (Z1 hh hz hr (Z6 ⟨⟨h0,h1⟩,trivial⟩)) ⟨?_,?_,?_,trivial⟩ rfl;all_goals
  intro hpc;have i0:(H8 X [at_] [] []).i 0=at_:=rfl;replace hpc:A6 (H8 X [at_] [] []) _:=hpc;simp only[A6,tmA,F8,kdA,i0,and_true]at hpc;refine⟨fun N=>rfl,?_,fun _=>rfl,A4 _⟩;show({ E6 (H8 X [at_] [] []) X.c _ with bg:=(X.c.V7 at_).bg }:Cn)=X.c.V7 at_;simp only[E6,svA,ad9 hh];rw[aZ7];first
   | (rw[if_pos U];rfl)
   | (rw[if_neg U];rfl)
theorem cb4{w:World}{g:Nat}{a:Pa}{X:Cs}(W:PcW w g a X)(hz:SzX X)(hr:RgX X.c)(hh:X.c.has=false)(s:Sg)(h0:0<=s.fa/\s.fa<=4294967295)(h1: -9223372036854775808<=s.fp/\s.fp<=9223372036854775807)(h2:0<=s.ta/\s.ta<=4294967295)(h3: -9223372036854775808<=s.tp/\s.tp<=9223372036854775807)(h4:0<=s.sq/\s.sq<=4294967295)(h5:0<=s.ak/\s.ak<=4294967295)(h6:0<=s.win/\s.win<=65535)(h7:0<=s.mss/\s.mss<=65535)(h8:s.body.size<=1000):
 Calls prog 55 #[.pointer (some ⟨g,0,none⟩), .agg #[.int .u32 s.fa, .int .i64 s.fp, .int .u32 s.ta, .int .i64 s.tp, .int .u32 s.sq, .int .u32 s.ak, .bool s.syn, .bool s.hak, .bool s.fin, .bool s.rst, .int .i64 s.win, .int .i64 s.mss, .string s.body]] w (F7 fun v w'=>v= .tuple #[]/\aS4 w w' g (X4 a g false) ⟨X.c.syn s,[],X.R⟩):=by
 have m0:=hr.r8;have hs8:(0:Int)<=(s.body.size:Int)/\(s.body.size:Int)<=1000:=by omega
 have i7:(H8 X [s.fa,s.fp,s.ta,s.tp,s.sq,s.ak,s.win,s.mss] [s.syn,s.hak,s.fin,s.rst] [s.body]).i 7=s.mss:=rfl;have e0:(u9 (H8 X [s.fa,s.fp,s.ta,s.tp,s.sq,s.ak,s.win,s.mss] [s.syn,s.hak,s.fin,s.rst] [s.body]) bv4).i=min 536 X.c.own:=by
  unfold bv4;simp only[aD5,A7,A0,kdA];split<;>omega
 have e1:(u9 (H8 X [s.fa,s.fp,s.ta,s.tp,s.sq,s.ak,s.win,s.mss] [s.syn,s.hak,s.fin,s.rst] [s.body]) a03).i=max 8 (min s.mss X.c.own):=by
  unfold a03;simp only[aD5,A7,A0,F0,i7,kdA]
  (repeat' split)<;>omega
 refine aA0 (is:=[s.fa,s.fp,s.ta,s.tp,s.sq,s.ak,s.win,s.mss]) (bs:=[s.syn,s.hak,s.fin,s.rst]) (ss:=[s.body]) (fun q hq=>by
  rcases aa.1 hq with rfl|hq
  .exact bY0 rfl
  rw[ah.1 hq];exact bY8) func55 rfl dU8 W hh (Z1 hh hz hr (Z6 ⟨h0,h1,h2,h3,h4,h5,h6,h7,hs8,trivial⟩)) ⟨?_,?_,?_,?_,trivial⟩ rfl
 all_goals intro hpc
 all_goals replace hpc:A6 (H8 X [s.fa,s.fp,s.ta,s.tp,s.sq,s.ak,s.win,s.mss] [s.syn,s.hak,s.fin,s.rst] [s.body]) _:=hpc
 all_goals simp only[A6,A9,y9,E5,F0,A0,i7,e1,and_true]at hpc
 .refine⟨fun N=>rfl,?_,fun _=>rfl,A4 _⟩;have em:X.c.aS7 s=min 536 X.c.own:=by unfold Cn.aS7;rw[if_pos hpc];omega
  show({ E6 _ X.c _ with bg:=(X.c.syn s).bg }:Cn)=X.c.syn s;unfold Cn.syn;rw[em];simp only[E6,svA,bI3,bL9,A0,e0];rfl
 .show(u9 _ _).b=true;simp only[E5,A0,e1];omega
 .show(u9 _ _).b=true;simp only[E5,A0,e1];omega
 .refine⟨fun N=>rfl,?_,fun _=>rfl,A4 _⟩;have em:X.c.aS7 s=max 8 (min s.mss X.c.own):=by unfold Cn.aS7;rw[if_neg hpc.2.2];omega
  show({ E6 _ X.c _ with bg:=(X.c.syn s).bg }:Cn)=X.c.syn s;unfold Cn.syn;rw[em];simp only[E6,svA,bI3,bL9,A0,e1];rfl
def inN(c:Cx)(t:Tm)(lo hi:Int):List Tm:=F9 c (.le (.il lo) t)++F9 c (.le t (.il hi))
theorem aO6{J:Env}{c:Cx}(hc:c.ok J){t:Tm}{lo hi:Int}(h:Sy.Met J (inN c t lo hi)):lo<=(u9 J t).i/\(u9 J t).i<=hi:=⟨B2 (z0 hc h.l),B2 (z0 hc h.r)⟩
def av1(c:Cx)(ts:List Tm)(R:Tm):List Tm:=F9 c (.le (Q6 c (tj ts 27)) (.il 4503599627370496))++F9 c (.le (aB4 c R) qck)
theorem aX9{J:Env}{c:Cx}(hc:c.ok J){ts:List Tm}{R:Tm}{X:Cs}(h:Sy.Met J (av1 c ts R))(e:cnT J ts=X.c)(eR:(u9 J R).c=Y3 X.R):SzX X:=by
 have h1:=B2 (z0 hc h.l);have h2:=B2 (z0 hc h.r);rw[Q8 hc]at h1;rw[aH1 hc,eR,aT8]at h2;have e1:(u9 J (tj ts 27)).s=X.c.all:=by rw[<-e];rfl
 rw[e1]at h1;have k1:(u9 J (.il 4503599627370496)).i=4503599627370496:=rfl;have k2:(u9 J qck).i=1099511627776:=rfl;exact⟨by omega,by omega⟩
def rgL:List (Nat × Int × Int):=[(0,0,4294967295),(1,0,65535),(2,0,4294967295),(3,0,65535),(4,0,9),(5,0,19),(6,0,4294967295),(7,0,4294967295),(8,8,1000),(9,8,1000),(10,0,65535),(11,-2305843009213693952,2305843009213693952),(12,-2305843009213693952,2305843009213693952),
 (13,0,1099511627776),(14,-1,1099511627776),(15,0,8),(16,0,1152921504606846976),(17,0,2199023255552),(21,0,1152921504606846976),(22,0,1099511627776),(24,0,1152921504606846976),(25,0,1152921504606846976),(26,0,1152921504606846976)]
def ndL(c:Cx)(ts:List Tm):List (Nat × Int × Int)->List Tm
 | []=>[]
 | (j,lo,hi)::l=>inN c (tj ts j) lo hi++ndL c ts l
def a06(c:Cx)(has:Bool)(ts:List Tm):List Tm:=ndL c ts rgL++(F9 c (.le i9 (aB0 (tj ts 25) (tj ts 24)))++(F9 c (.le i9 (aB0 (tj ts 13) (tj ts 22)))++(F9 c (.le i9 (aB0 (tj ts 26) (tj ts 25)))++(if has then ndL c ts [(34,8,1000),(35,8,65535),(36,0,65535)]else []))))
def ndP(J:Env)(ts:List Tm):List (Nat × Int × Int)->Prop
 | []=>True
 | (j,lo,hi)::l=>(lo<=(u9 J (tj ts j)).i/\(u9 J (tj ts j)).i<=hi)/\ndP J ts l
theorem by5{J:Env}{c:Cx}(hc:c.ok J){ts:List Tm}:∀{l:List (Nat × Int × Int)},Sy.Met J (ndL c ts l)->ndP J ts l
 | [],_=>trivial
 | (j,lo,hi)::l,h=>⟨aO6 hc h.l,by5 hc h.r⟩
theorem ab0{J:Env}{c:Cx}(hc:c.ok J){has:Bool}{ts:List Tm}{X:Cs}(h:Sy.Met J (a06 c has ts))(e:cnT J ts=X.c)(hh:X.c.has=has):RgX X.c:=by
 have h1:=by5 hc h.l;have h2:=B2 (z0 hc h.r.l);have h3:=B2 (z0 hc h.r.r.l);have h5:=B2 (z0 hc h.r.r.r.l);rw[aA6]at h2 h3 h5;have h4:=h.r.r.r.r;rw[<-e];obtain⟨q0,q1,q2,q3,q4,q5,q6,q7,q8,q9,q10,q11,q12,q13,q14,q15,q16,q17,q21,q22,q24,q25,q26,_⟩:=h1;have z:(u9 J i9).i=0:=rfl;refine⟨q0,q1,q2,q3,q4,q5,q6,q7,q8,q9,q10,q11,q12,q13,q14,q15,q16,q17,q21,q22,q24,q25,q26,?_,?_,?_,fun q=>?_⟩
 .show(u9 J (tj ts 24)).i<=(u9 J (tj ts 25)).i;omega
 .show(u9 J (tj ts 22)).i<=(u9 J (tj ts 13)).i;omega
 .show(u9 J (tj ts 25)).i<=(u9 J (tj ts 26)).i;omega
 .rw[e,hh]at q;subst q;obtain⟨w1,w2,w3,_⟩:=by5 hc h4;exact⟨w1,w2,w3⟩
def bdY(has:Bool)(Y:Tm):List Bd:=
 [⟨S0 0 Y,0,4294967295⟩,⟨S0 1 Y,0,65535⟩,⟨S0 2 Y,0,4294967295⟩,⟨S0 3 Y,0,65535⟩,⟨S0 4 Y,0,9⟩,⟨S0 5 Y,0,19⟩,⟨S0 6 Y,0,4294967295⟩,⟨S0 7 Y,0,4294967295⟩,⟨S0 8 Y,8,1000⟩,⟨S0 9 Y,8,1000⟩,⟨S0 10 Y,0,65535⟩,⟨S0 11 Y,-2305843009213693952,2305843009213693952⟩,⟨S0 12 Y,-2305843009213693952,2305843009213693952⟩,
 ⟨S0 13 Y,0,1099511627776⟩,⟨S0 14 Y,-1,1099511627776⟩,⟨S0 15 Y,0,8⟩,⟨S0 16 Y,0,1152921504606846976⟩,⟨S0 17 Y,0,2199023255552⟩,⟨S0 21 Y,0,1152921504606846976⟩,⟨S0 22 Y,0,1099511627776⟩,⟨S0 24 Y,0,1152921504606846976⟩,⟨S0 25 Y,0,1152921504606846976⟩,⟨S0 26 Y,0,1152921504606846976⟩,⟨.sub (S0 25 Y) (S0 24 Y),0,1152921504606846976⟩,⟨.sub (S0 13 Y) (S0 22 Y),0,1099511627776⟩,⟨.sub (S0 26 Y) (S0 25 Y),0,1152921504606846976⟩,
 ⟨.len (S0 27 Y),0,4503599627370496⟩]++(if has then [⟨S0 34 Y,8,1000⟩,⟨S0 35 Y,8,65535⟩,⟨S0 36 Y,0,65535⟩]else [])
theorem ai5{J:Env}(hf:J.f=cnF){Y:Tm}{X:Cs}{has:Bool}(hY:hd (u9 J Y)=K9 X.c)(hh:X.c.has=has)(hr:RgX X.c)(hz:X.c.all.size<=4503599627370496):X5 J (bdY has Y):=by
 have key:∀ j:Int,u9 J (S0 j Y)=⟨z9 (K9 X.c) j.toNat,Y5 (K9 X.c) j.toNat,aB8 (K9 X.c) j.toNat,[]⟩:=fun j=>by
  unfold S0;rw[F3 hf,<-hY];rfl
 have kb:∀(j:Int) (lo hi:Int),(lo<=z9 (K9 X.c) j.toNat/\z9 (K9 X.c) j.toNat<=hi)->lo<=(u9 J (S0 j Y)).i/\(u9 J (S0 j Y)).i<=hi:=fun j lo hi h=>by rw[key];exact h
 have h1:=hr.r25;have h2:=hr.r24;have h3:=hr.d1;have h4:=hr.d2;have h5:=hr.r13;have h6:=hr.r22;have h7:=hr.d3;have h8:=hr.r26;refine aH3 (Z6 ⟨kb _ _ _ hr.r0,kb _ _ _ hr.r1,kb _ _ _ hr.r2,kb _ _ _ hr.r3,kb _ _ _ hr.r4,kb _ _ _ hr.r5,kb _ _ _ hr.r6,kb _ _ _ hr.r7,kb _ _ _ hr.r8,kb _ _ _ hr.r9,kb _ _ _ hr.r10,kb _ _ _ hr.r11,kb _ _ _ hr.r12,kb _ _ _ hr.r13,kb _ _ _ hr.r14,kb _ _ _ hr.r15,kb _ _ _ hr.r16,kb _ _ _ hr.r17,kb _ _ _ hr.r21,kb _ _ _ hr.r22,kb _ _ _ hr.r24,kb _ _ _ hr.r25,kb _ _ _ hr.r26,?_,?_,?_,?_,trivial⟩) ?_
 .show 0<=(u9 J (S0 25 Y)).i - (u9 J (S0 24 Y)).i/\(u9 J (S0 25 Y)).i - (u9 J (S0 24 Y)).i<=1152921504606846976;rw[key,key];show 0<=X.c.cur - X.c.una/\X.c.cur - X.c.una<=1152921504606846976;omega
 .show 0<=(u9 J (S0 13 Y)).i - (u9 J (S0 22 Y)).i/\(u9 J (S0 13 Y)).i - (u9 J (S0 22 Y)).i<=1099511627776;rw[key,key];show 0<=X.c.now - X.c.wen/\X.c.now - X.c.wen<=1099511627776;omega
 .show 0<=(u9 J (S0 26 Y)).i - (u9 J (S0 25 Y)).i/\(u9 J (S0 26 Y)).i - (u9 J (S0 25 Y)).i<=1152921504606846976;rw[key,key];show 0<=X.c.snt - X.c.cur/\X.c.snt - X.c.cur<=1152921504606846976;omega
 .show(0:Int)<=((u9 J (S0 27 Y)).s.size:Int)/\((u9 J (S0 27 Y)).s.size:Int)<=4503599627370496;rw[key];show(0:Int)<=(X.c.all.size:Int)/\(X.c.all.size:Int)<=4503599627370496;omega
 .cases has with
  | false=>exact aG5 _
  | true=>
    obtain⟨q1,q2,q3⟩:=hr.h hh;exact Z6 ⟨kb _ _ _ q1,kb _ _ _ q2,kb _ _ _ q3,trivial⟩
def aV6(tl:Tm):List C->Option Tm
 | [.int .u32 a0, .int .i64 a1, .int .u32 a2, .int .i64 a3, .int .u32 a4, .int .u32 a5, .bool b0, .bool b1, .bool b2, .bool b3, .int .i64 a6, .int .i64 a7, .str s0]=>
   some (.tb qb9 a0 (zI a1 (.tb qb9 a2 (zI a3 (.tb qb9 a4 (.tb qb9 a5 (.tb qb4 b0 (.tb qb4 b1 (.tb qb4 b2 (.tb qb4 b3 (zI a6 (zI a7 (.tb (.cons .str) s0 tl i9))) i9) i9) i9) i9) i9) i9)) i9)) i9)
 | _=>none
def cv0(c:Cx):List C->List Tm
 | [.int .u32 a0, .int .i64 a1, .int .u32 a2, .int .i64 a3, .int .u32 a4, .int .u32 a5, .bool b0, .bool b1, .bool b2, .bool b3, .int .i64 a6, .int .i64 a7, .str s0]=>
   inN c a0 0 4294967295++(aU6 c a1++(inN c a2 0 4294967295++(aU6 c a3++(inN c a4 0 4294967295++(inN c a5 0 4294967295++(inN c a6 0 65535++(inN c a7 0 65535++F9 c (.le (Q6 c s0) (.il 1000)))))))))
 | _=>[]
structure SgIn(s:Sg):Prop where
 h0:0<=s.fa/\s.fa<=4294967295
 h1: -9223372036854775808<=s.fp/\s.fp<=9223372036854775807
 h2:0<=s.ta/\s.ta<=4294967295
 h3: -9223372036854775808<=s.tp/\s.tp<=9223372036854775807
 h4:0<=s.sq/\s.sq<=4294967295
 h5:0<=s.ak/\s.ak<=4294967295
 h6:0<=s.win/\s.win<=65535
 h7:0<=s.mss/\s.mss<=65535
 h8:s.body.size<=1000
def sgV(s:Sg):Value:= .agg #[.int .u32 s.fa, .int .i64 s.fp, .int .u32 s.ta, .int .i64 s.tp, .int .u32 s.sq, .int .u32 s.ak, .bool s.syn, .bool s.hak, .bool s.fin, .bool s.rst, .int .i64 s.win, .int .i64 s.mss, .string s.body]
theorem af0{J:Env}{tl:Tm}{cs:List C}{z:Tm}(h:aV6 tl cs=some z):(∀ N,V1.W7 J N (.agg cs)=sgV (W5 (hd (u9 J z))))/\(∀ c:Cx,c.ok J->Sy.Met J (cv0 c cs)->SgIn (W5 (hd (u9 J z))))/\∀(t:Tm) (r:Tm),tl=zI t r->z9 (hd (u9 J z)) 13=(u9 J t).i:=by
 unfold aV6 at h;split at h
 .injection h with h;subst h;refine⟨fun N=>rfl,fun c hc hm=>?_,fun t r e=>by subst e;rfl⟩;have h8:=B2 (z0 hc hm.r.r.r.r.r.r.r.r);rw[Q8 hc]at h8;refine⟨aO6 hc hm.l,aE4 hc hm.r.l,aO6 hc hm.r.r.l,aE4 hc hm.r.r.r.l,aO6 hc hm.r.r.r.r.l,aO6 hc hm.r.r.r.r.r.l,aO6 hc hm.r.r.r.r.r.r.l,aO6 hc hm.r.r.r.r.r.r.r.l,?_⟩;have k:(u9 J (.il 1000)).i=1000:=rfl;show(u9 J _).s.size<=1000;omega
 .cases h
def noA(_:Cx):List SV->Option (List Tm × Tm × Tm)
 | []=>some ([], .il 0, .il 0)
 | _=>none
def bh5(c:Cx):List SV->Option (List Tm × Tm × Tm)
 | [.one (.c (.int .i64 t))]=>some (aU6 c t,t, .il 0)
 | _=>none
def sgA(c:Cx):List SV->Option (List Tm × Tm × Tm)
 | [.one (.agg cs)]=>(aV6 qao cs).map fun z=>(cv0 c cs, .il 0,z)
 | _=>none
def seG:Gp where
 f:=45
 args:=noA
 need:=fun c _ ts R _ _=>av1 c ts R
 has':=fun h=>h
 row:=fun Y _ _ _=> .ap 120 Y i9 i9
 L:=fun _ L _ _=>L
 R:=fun _ _ R _ _=>R
 ans:=fun _ _ _ _=> .tup []
 bs:=fun _ _ _ _ _ _=>[]
def akG:Gp where
 f:=97
 args:=bh5
 need:=fun c h ts R _ _=>av1 c ts R++(a06 c h ts++(if h then []else [.bl false]))
 has':=fun h=>h
 row:=fun Y _ y _=> .ap 122 Y y i9
 L:=fun _ L _ _=>L
 R:=fun _ _ R _ _=>R
 ans:=fun _ _ _ _=> .tup []
 bs:=fun _ h Y _ y _=>bdY h (.ap 122 Y y i9)
def syG:Gp where
 f:=55
 args:=sgA
 need:=fun c h ts R _ _=>av1 c ts R++(a06 c h ts++(if h then [.bl false]else []))
 has':=fun _=>true
 row:=fun Y _ _ z=> .ap 121 Y i9 z
 L:=fun _ _ _ _=>tn
 R:=fun _ _ R _ _=>R
 ans:=fun _ _ _ _=> .tup []
 bs:=fun _ h Y _ _ z=>bdY true (.ap 121 Y i9 z)
theorem zm1:(-1:Int)<= -1/\(-1:Int)<=1099511627776:=by decide
theorem z8:(0:Int)<=0/\(0:Int)<=8:=by decide
theorem z60:(0:Int)<=0/\(0:Int)<=1152921504606846976:=by decide
theorem z16:(0:Int)<=65535/\(65535:Int)<=65535:=by decide
theorem a92{c:Cn}(h:RgX c)(hh:c.has=true)(at_:Int):RgX (c.V7 at_):=by
 have o1:0<=c.una:=h.r24.1;have o2:c.una<=c.cur:=h.d1;have o3:c.cur<=c.snt:=h.d3;obtain⟨w1,w2,w3⟩:=h.h hh;have s1:=h.r26;have hu:(0<=(c.ou.ack at_).una/\(c.ou.ack at_).una<=1152921504606846976)/\(0<=(c.ou.ack at_).cur/\(c.ou.ack at_).cur<=1152921504606846976)/\(c.ou.ack at_).una<=(c.ou.ack at_).cur/\(c.ou.ack at_).cur<=c.snt:=by
  unfold Ou.ack Cn.ou;simp only;split
  .simp only;omega
  .simp only;omega
 have hz:=cG8 c.cm c.cz c.cs (c.ou.ad1 at_) w1.1 w1.2 w2.1 w2.2;rw[aZ7];obtain⟨r0,r1,r2,r3,r4,r5,r6,r7,r8,r9,r10,r11,r12,r13,r14,r15,r16,r17,r21,r22,r24,r25,r26,d1,d2,d3,hx⟩:=h;split
 .exact⟨r0,r1,r2,r3,r4,r5,r6,r7,r8,r9,r10,r11,r12,r13,zm1,z8,z60,r17,z60,r22,hu.1,hu.2.1,r26,hu.2.2.1,d2,hu.2.2.2,fun _=>⟨w1,hz,w3⟩⟩
 .exact⟨r0,r1,r2,r3,r4,r5,r6,r7,r8,r9,r10,r11,r12,r13,zm1,z8,z60,r17,r21,r22,hu.1,hu.2.1,r26,hu.2.2.1,d2,hu.2.2.2,fun _=>⟨w1,hz,w3⟩⟩
theorem aR1(c:Cn)(at_:Int):(c.V7 at_).all=c.all/\(c.V7 at_).has=c.has:=by
 rw[aZ7];split<;>exact⟨rfl,rfl⟩
theorem bV8{c:Cn}(h:RgX c){s:Sg}(hs:SgIn s):RgX (c.syn s):=by
 obtain⟨r0,r1,r2,r3,r4,r5,r6,r7,r8,r9,r10,r11,r12,r13,r14,r15,r16,r17,r21,r22,r24,r25,r26,d1,d2,d3,hx⟩:=h;have hm:8<=c.aS7 s/\c.aS7 s<=1000:=by
  have:=hs.h7;unfold Cn.aS7;split<;>omega
 exact⟨r0,r1,r2,r3,r4,r5,r6,hs.h4,r8,hm,hs.h6,r11,r12,r13,r14,r15,r16,r17,r21,r22,r24,r25,r26,d1,d2,d3,fun _=>⟨hm,(by show 8<=2*c.aS7 s/\2*c.aS7 s<=65535;omega),z16⟩⟩
theorem aG8(c:Cn):c.F6.all=c.all/\c.F6.has=c.has:=by
 unfold Cn.F6;split
 .split<;>exact⟨rfl,rfl⟩
 .exact⟨rfl,rfl⟩
section
variable{J:Env}(E:CnEnv J)
include E
theorem bv8:(af6 seG).Ok prog J:=by
 refine a33 E fun{cx xs m y z has ts Y L R X} hc ha hm hn e hY hh hL hR {w g a} W N=>?_
 change noA cx xs=some (m,y,z)at ha;unfold noA at ha;split at ha
 .injection ha with ha;injection ha with h1 ha;injection ha with h2 h3;subst h1 h2 h3;have hz:=aX9 hc hn e hR;refine⟨aG5 _,fun _=>rfl,⟨X.c.F6,X.L,X.R⟩,?_,?_,fun _=>hL,hR,?_⟩
  .show hd (u9 J (.ap 120 Y i9 i9))=_;rw[F3 E.f];show K9 (R7 (hd (u9 J Y))).F6=_;rw[hY,U7]
  .show X.c.F6.has=has;rw[(aG8 X.c).2,hh]
  .have:=bv6 W hz;rw[hh]at this;exact this
 .cases ha
theorem cl7:(af6 akG).Ok prog J:=by
 refine a33 E fun{cx xs m y z has ts Y L R X} hc ha hm hn e hY hh hL hR {w g a} W N=>?_
 change bh5 cx xs=some (m,y,z)at ha;unfold bh5 at ha;split at ha
 .rename_i t;injection ha with ha;injection ha with h1 ha;injection ha with h2 h3;subst h1 h2 h3;have ht:=aE4 hc hm;have hz:=aX9 hc hn.l e hR;have hr:=ab0 hc hn.r.l e hh;have hs:has=true:=by
   cases has with
   | true=>rfl
   | false=>exact hn.r.r _ (ae ..)
  subst hs;have hrow:hd (u9 J (.ap 122 Y t i9))=K9 (X.c.V7 (u9 J t).i):=by
   rw[F3 E.f];show K9 ((R7 (hd (u9 J Y))).V7 (u9 J t).i)=_;rw[hY,U7]
  have ea:=aR1 X.c (u9 J t).i;refine⟨ai5 (X:=⟨X.c.V7 (u9 J t).i,X.L,X.R⟩) E.f hrow (ea.2.trans hh) (a92 hr hh _) (by show(X.c.V7 _).all.size<=_;rw[ea.1];exact hz.a),fun _=>rfl,⟨X.c.V7 (u9 J t).i,X.L,X.R⟩,hrow,ea.2.trans hh,fun _=>hL,hR,?_⟩;exact cC1 W hz hr hh ht.1 ht.2
 .cases ha
theorem dt1:(af6 syG).Ok prog J:=by
 refine a33 E fun{cx xs m y z has ts Y L R X} hc ha hm hn e hY hh hL hR {w g a} W N=>?_
 change sgA cx xs=some (m,y,z)at ha;unfold sgA at ha;split at ha
 .rename_i cs;cases hg:aV6 qao cs with
  | none=>rw[hg]at ha;cases ha
  | some z'=>
    rw[hg]at ha;injection ha with ha;injection ha with h1 ha;injection ha with h2 h3;subst h1 h2 h3;obtain⟨g1,g2,_⟩:=af0 (J:=J) hg;have hs:=g2 cx hc hm;have hz:=aX9 hc hn.l e hR;have hr:=ab0 hc hn.r.l e hh;have hb':has=false:=by
     cases has with
     | false=>rfl
     | true=>exact nomatch (show false=true from hn.r.r _ (ae ..))
    subst hb';generalize hG:W5 (hd (u9 J z'))=G at g1 hs;have hrow:hd (u9 J (.ap 121 Y i9 z'))=K9 (X.c.syn G):=by
     rw[F3 E.f];show K9 ((R7 (hd (u9 J Y))).syn (W5 (hd (u9 J z'))))=_;rw[hY,U7,hG]
    refine⟨ai5 (X:=⟨X.c.syn G,[],X.R⟩) E.f hrow rfl (bV8 hr hs) hz.a,fun _=>rfl,⟨X.c.syn G,[],X.R⟩,hrow,rfl,fun _=>rfl,hR,?_⟩;have:=cb4 W hz hr hh G hs.h0 hs.h1 hs.h2 hs.h3 hs.h4 hs.h5 hs.h6 hs.h7 hs.h8;have ev:([SV.one (.agg cs)].map (SV.A1 J N)).toArray=#[sgV G]:=by
     show #[V1.W7 J N (.agg cs)]=_;rw[g1]
    rw[ev];exact this
 .cases ha
end
def aH7:List Kd:=[.int .u32, .int .i64, .int .u32, .int .i64, .int .u32, .int .u32, .bool, .bool, .bool, .bool, .int .i64, .int .i64, .str]
def oP1:List Nat:=[1,1,0,1,2]
def oP2:List Nat:=[1,1,1,1,0,1,2]
def oMr:List Bd:=[⟨L7 j6,0,1099511627760⟩]
def kOu:Tm:= .tb (.cons .str) y8 (.tb qb4 y6 (.tb qax w6 (.tb qax y4 (.tb qax y5 qao i9) i9) i9) i9) i9
def kOv:Tm:= .tb (.cons .str) y8 (.tb qb4 y6 (.tb qax w6 (.tb qax s9 (.tb qax (.iv 22) qao i9) i9) i9) i9) i9
abbrev qcr:Tm:= .ap 128 kOv (.iv 25) k9
abbrev qdg:Tm:= .ap 129 kOv (.iv 25) k9
def kLo:Tm:= .tb qax y5 (.tb qax k9 qao i9) i9
def kLv:Tm:= .tb qax (.iv 25) (.tb qax k9 qao i9) i9
abbrev qdy:Tm:= .ap 114 kOv s9 kLv
abbrev qge:Tm:= .ap 111 kOv s9 kLv
def ar2(n:Nat)(f:Nat->Option SV):List SV:=(List.range n).map fun i=>match f i with
 | some v=>v
 | none=> .any i
def cy2(t:Tm):Bk:=⟨60,38,[],true,none, .tab aH7 t⟩
def oa0(P:Program)(fn:Func)(has:Bool):Rs:=R6 P pcS 10 400 12 (.code (pre oP1 (y7 fn))) (L3 fn [.one (.c (.ptr 0 0))] ⟨[],a12 0 2 has (tsY j8 has) j5 j6,(V5 has oMr),12⟩)
def oaS(P:Program)(fn:Func)(has:Bool):Sy.St:=au3 (I1 (oa0 P fn has) 0) 3 60 38 aH7
def oSl(k:Nat):SV:= .one (.c (.slt 60 13 i9 (.iv k) i9))
def oaX(has:Bool):Cx:=⟨⟨.iv 20,0,1099511627760⟩::⟨L7 s5,0,1099511627760⟩::⟨.iv 19,0,1099511627760⟩::(V5 has oMr).bs,[.le (.iv 19) (L7 s5), .le (L7 s5) (.iv 19)]⟩
def oaT(P:Program)(fn:Func)(has:Bool):Sy.St:=b18 (oaS P fn has) (Y9 (Sy.I9 oP1 (y7 fn))) [(3,oSl 19),(18, .one (.c (.int .i64 (.iv 20))))] [cy2 s5] (oaX has) 70
def oa1(P:Program)(fn:Func)(has:Bool):Rs:=R6 P pcS 10 400 12 (.code (Y9 (Sy.I9 oP1 (y7 fn)))) (oaT P fn has)
def oR(fn:Func):Code:=Sy.I9 [1,1,1] (y7 fn)
def obX(has:Bool)(l:List Tm):Cx:=⟨⟨L7 s5,0,1099511627760⟩::⟨.iv 19,0,1099511627760⟩::(V5 has oMr).bs,l++[.le (.iv 19) (L7 s5), .le (L7 s5) (.iv 19)]⟩
def obT(has:Bool)(l:List Tm):Sy.St:=⟨ar2 166 fun i=>if i=0 then some qc9 else if i=3 then some (oSl 19)else none,a12 0 2 has (tsY j8 has) j5 j6++[cy2 s5],obX has l,70⟩
def nz4:Tm:= .not qaw 
def oL(has:Bool):List Tm:=if has then [nz4]else [nz4, .eq w6 i9]
def ob0(P:Program)(fn:Func)(has:Bool)(l:List Tm):Rs:=R6 P pcS 10 400 12 (.code (pre oP2 (oR fn))) (obT has l)
def ots(has:Bool):List Tm:=((((tsY j8 has).set 21 (.iv 23)).set 22 (.iv 24)).set 25 s9).set 26 (.iv 22)
def eP2(has:Bool):Bk:=let b:=ah8 0 2 has (ots has) j6;{ b with cs:=b.cs.set 28 .nslc }
def oHp(has:Bool):List Bk:=eP2 has::bX3 2 41 0 110 true (ouT y8 y6 w6 s9 (.iv 22))::bX3 4 43 2 120 true (tmC k31 k32 k33)::((if has then [bX3 8 45 1 132 true (ac7 k29 k30 j5),av0 10 137 I6 k35 k36]else [])++[cy2 s7])
def ocX(has:Bool):Cx:=⟨⟨.iv 21,0,1152921504606846976⟩::⟨.iv 22,0,1152921504606846976⟩::⟨.sub (.iv 22) s9,0,1152921504606846976⟩::⟨.iv 23,0,1152921504606846976⟩::⟨.iv 24,0,1099511627776⟩::⟨.iv 25,-4611686018427387904,4611686018427387904⟩::⟨.iv 26,0,1099511627776⟩::⟨.iv 29,0,1759218604000⟩::⟨L7 s7,0,1759218604000⟩::(V5 has oMr).bs,[.le (.iv 29) (L7 s7), .le (L7 s7) (.iv 29), .not qaw]⟩
def ocT(has:Bool):Sy.St:=⟨ar2 166 fun i=>if i=0 then some qc9 else if i=3 then some (oSl 29)else if i=6 then some (.one (.c (.int .i64 (.iv 26))))else if i=9 then some (.one (.c (.int .i64 (.iv 25))))else none,oHp has,ocX has,100⟩
def oc1(P:Program)(fn:Func)(has:Bool):Rs:=R6 P pcS 10 400 12 (.code (Y9 (Sy.I9 oP2 (oR fn)))) (ocT has)
def od0(P:Program)(fn:Func)(has:Bool):Rs:=R6 P (af6 seG::pcS) 10 400 12 (.code (aft (.exit 2) oP2 (oR fn))) (ocT has)
end Go.Proofs.YtnlcpcmdlcakgaaGreat
