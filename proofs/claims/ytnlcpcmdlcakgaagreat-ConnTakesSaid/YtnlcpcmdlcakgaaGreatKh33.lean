/- A part of the proof that a connection answers as the document says: Cf6 Cd3. -/
import Derived.Test.YtnlcpcmdlcakgaaGreatKh32
set_option maxRecDepth 100000
set_option maxHeartbeats 4000000
set_option linter.unusedVariables false
set_option linter.unusedSimpArgs false
set_option linter.unusedSectionVars false
open Go.Proofs.Tryz
namespace Go.Proofs.YtnlcpcmdlcakgaaGreat
open Go.RowKit Sy
section
variable{X:Cs}{J:Env}{d:Cn}{out:List Sg}{has:Bool}
theorem dz2(E:OE X J):∀ q∈af6 seG::pcS,q.Ok prog J:=by
 intro q hq;rcases aa.1 hq with rfl|hq
 .exact bv8 E.cn
 .exact aR0 E.cn q hq
theorem OI2.ed5(I:OI2 X d out J)(hNj:d.ou.pN d.cur X.c.K3 d.mss):out=X.R.map X.c.rsG++X.c.aW8 X.L/\d=X.c.aK9:=by
 obtain⟨g1,g2⟩:=Cn.bM6 (L:=X.L) hNj;refine⟨?_,?_⟩
 .have:=I.all;rw[g1,ao]at this;exact this
 .have:=I.fin;rw[g2]at this;exact this
theorem OI2.ed6(I:OI2 X d out J)(A:OAsk X has)(hs:¬X.c.st=0)(ho:out=X.R.map X.c.rsG++X.c.aW8 X.L)(hd:d=X.c.aK9)(h1:(u9 J (.eq (.iv 29) (.iv 26))).b=true)(h2:(u9 J k18).b=true):
 E6 J (cnY J X.c (oY has oOw)) [(28, .bl has)]=X.c.aN5/\(u9 J (.tb .app s7 (as4 has) i9)).c=(X.c.aB3 X.L X.R).map sgR/\(u9 J (.add (L7 s7) l9)).i=((X.c.aB3 X.L X.R).length:Int):=by
 rw[A9]at h1;change J.i 29=J.i 26 at h1;rw[I.i29,I.i26]at h1;have hl:(X.c.aW8 X.L).length=0:=by
  rw[ho,az,aE]at h1;omega
 rw[I.e.k rfl]at h2;change X.c.owed=true at h2;have e3:X.c.aB3 X.L X.R=out++[d.bI0 X.L d.snt]:=by
  unfold Cn.aB3 Cn.bU8;rw[if_neg hs,if_pos ⟨h2,hl⟩,<-hd,ho,ay hl,ao]
 have eo:(u9 J oOw).b=false:=by
  cases q:(u9 J oOw).b with
  | false=>rfl
  | true=>
    unfold oOw at q;rw[A9]at q;change((J.c 6).length:Int)+1=J.i 26 at q;rw[I.len,I.i26]at q;omega
 refine⟨?_,?_,?_⟩
 .rw[cF8 I A.hh,eo,hd];unfold Cn.aN5;rw[if_neg hs]
 .show J.c 6++(u9 J (as4 has)).c=_;rw[I.ed7 A.hh,I.c6,e3,bb];rfl
 .show((J.c 6).length:Int)+1=_;rw[I.len,e3,az];rfl
theorem OI2.eK7(I:OI2 X d out J)(A:OAsk X has)(hs:¬X.c.st=0)(ho:out=X.R.map X.c.rsG++X.c.aW8 X.L)(hd:d=X.c.aK9)(h:¬(X.c.owed=true/\(X.c.aW8 X.L).length=0)):
 E6 J (cnY J X.c (oY has l4)) [(28, .bl has)]=X.c.aN5/\(u9 J s7).c=(X.c.aB3 X.L X.R).map sgR/\(u9 J (.iv 29)).i=((X.c.aB3 X.L X.R).length:Int):=by
 have e3:X.c.aB3 X.L X.R=out:=by
  unfold Cn.aB3 Cn.bU8;rw[if_neg hs,if_neg h,ho]
 refine⟨?_,?_,?_⟩
 .rw[cF8 I A.hh,hd];unfold Cn.aN5;rw[if_neg hs];rfl
 .show J.c 6=_;rw[I.c6,e3]
 .show J.i 29=_;rw[I.i29,e3]
theorem OI2.no1(I:OI2 X d out J)(ho:out=X.R.map X.c.rsG++X.c.aW8 X.L)(h:(u9 J (.not (.eq (.iv 29) (.iv 26)))).b=true):¬(X.c.owed=true/\(X.c.aW8 X.L).length=0):=by
 rw[y9,A9]at h;change ¬J.i 29=J.i 26 at h;rw[I.i29,I.i26,ho,az,aE]at h;omega
theorem OE.no2(E:OE X J)(h:(u9 J (.not k18)).b=true):¬(X.c.owed=true/\(X.c.aW8 X.L).length=0):=by
 rw[y9,E.k rfl]at h;exact fun q=>h q.1
theorem OI1.one(I:OI1 X X.R.length J)(A:OAsk X has)(h1:(u9 J k19).b=true)(h2:(u9 J aL8).b=true){m:Tm}(hm:(u9 J m).i=if X.c.ou.aB5 X.c.una X.c.snt X.c.mss then X.c.own else 0):
 (u9 J (.add (L7 s5) l9)).i=((X.R.map X.c.rsG++X.c.aI1 X.L).length:Int)/\(u9 J (.tb .app s5 (aU3 kOu w6 kLo has m) i9)).c=(X.R.map X.c.rsG++X.c.aI1 X.L).map sgR:=by
 rw[I.e.k rfl]at h1 h2;change X.c.again=true at h1;change X.c.ou.pIs X.c.una X.c.snt X.c.mss=true at h2;unfold Ou.pIs at h2;have h2:=of_decide_eq_true h2;have e1:X.c.aI1 X.L=[X.c.aP4 X.L X.c.una X.c.snt]:=by
  unfold Cn.aI1;rw[if_pos ⟨h1,h2⟩]
 have hO:aM5 (hd (u9 J kOu))=X.c.ou:=by rw[I.e.k rfl];rfl
 have ha:(u9 J w6).i=X.c.una:=by rw[I.e.k rfl];rfl
 have hb:z9 (hd (u9 J kLo)) 0=X.c.snt:=by rw[I.e.k rfl];rfl
 have hs:z9 (hd (u9 J kLo)) 1=X.c.mss:=by rw[I.e.k rfl];rfl
 have c5:=I.c5;rw[List.take_length]at c5;refine⟨?_,?_⟩
 .show((J.c 5).length:Int)+1=_;rw[I.len,e1,az,aE];rfl
 .show J.c 5++(u9 J (aU3 kOu w6 kLo has m)).c=_;have hrow:(u9 J (aU3 kOu w6 kLo has m)).c=[sgR (X.c.aP4 X.L X.c.una X.c.snt)]:=by
   exact a85 I.e hO ha hb hs (Cn.Like.bV0 A.r.d3 A.r.r21.1) A.hh hm
  rw[hrow,c5,e1,bb,List.map_map];rfl
theorem OI1.eU7(I:OI1 X X.R.length J)(h:¬(X.c.again=true/\¬X.c.ou.pN X.c.una X.c.snt X.c.mss)):
 (u9 J (.iv 19)).i=((X.R.map X.c.rsG++X.c.aI1 X.L).length:Int)/\(u9 J s5).c=(X.R.map X.c.rsG++X.c.aI1 X.L).map sgR:=by
 have e1:X.c.aI1 X.L=[]:=by
  unfold Cn.aI1;rw[if_neg h]
 have c5:=I.c5;rw[List.take_length]at c5;refine⟨?_,?_⟩
 .show J.i 19=_;rw[I.i19,e1,ao,aE]
 .show J.c 5=_;rw[c5,e1,ao,List.map_map];rfl
theorem OE.bU1(E:OE X J)(h:(u9 J (.not k19)).b=true):¬(X.c.again=true/\¬X.c.ou.pN X.c.una X.c.snt X.c.mss):=by
 rw[y9,E.k rfl]at h;exact fun q=>h q.1
theorem OE.bD5(E:OE X J)(h:(u9 J (.not aL8)).b=true):¬(X.c.again=true/\¬X.c.ou.pN X.c.una X.c.snt X.c.mss):=by
 rw[y9,E.k rfl]at h;exact fun q=>h (aD q.2)
theorem OE.l1(E:OE X J)(h:(u9 J z24).b=true):(u9 J l9).i=X.c.K3:=by
 unfold z24 at h;rw[A9,E.k rfl]at h;exact(dM3 h).symm
theorem OE.l2(E:OE X J)(h:(u9 J (.not z24)).b=true)(hp:(u9 J k20).b=true):(u9 J oLa).i=X.c.K3:=by
 unfold z24 at h;rw[y9,A9,E.k (t:=w6) rfl]at h;rw[E.k rfl]at hp;change X.c.prb=true at hp;unfold oLa oMi;rw[cO5 h,hp,z7,ae3,ai1,E.k (t:=w6) rfl,E.k (t:=k35) rfl,E.k (t:=A2) rfl];show X.c.una+max (min X.c.cz X.c.wnd) 1=X.c.una+max (b2 true) (min X.c.wnd X.c.cz);have:b2 true=1:=rfl;omega
theorem OE.l3(E:OE X J)(A:OAsk X has)(h:(u9 J (.not z24)).b=true)(hp:(u9 J (.not k20)).b=true):(u9 J oLb).i=X.c.K3:=by
 unfold z24 at h;rw[y9,A9,E.k (t:=w6) rfl]at h;rw[y9,E.k rfl]at hp;have hp:X.c.prb=false:=by
  cases q:X.c.prb with
  | false=>rfl
  | true=>exact absurd q hp
 have h':¬X.c.una=0:=h;have hs:X.c.has=true:=by
  cases q:X.c.has with
  | true=>rfl
  | false=>exact absurd (A.u q) h'
 obtain⟨_,q,_⟩:=A.r.h hs;have h10:=A.r.r10;unfold oLb oMi;rw[cO5 h',hp,z7,ai1,E.k (t:=w6) rfl,E.k (t:=k35) rfl,E.k (t:=A2) rfl];show X.c.una+min X.c.cz X.c.wnd=X.c.una+max (b2 false) (min X.c.wnd X.c.cz);have:b2 false=0:=rfl;omega
theorem OE.own(E:OE X J){O lo l:Tm}{y:Bool}(hy:(u9 J (.ap 111 O lo l)).b=y)(h:(u9 J (.ap 111 O lo l)).b=true):(u9 J k8).i=if y then X.c.own else 0:=by
 rw[<-hy,h,E.k rfl];rfl
theorem OE.am4(E:OE X J){O lo l:Tm}{y:Bool}(hy:(u9 J (.ap 111 O lo l)).b=y)(h:(u9 J (.not (.ap 111 O lo l))).b=true):(u9 J i9).i=if y then X.c.own else 0:=by
 rw[y9]at h;rw[<-hy,bc.2 h];rfl
end
def dcS:List Sy.Spec:=[a41,ce4,ce2,cd8,cd4,ce0,cd6,dP3,dP0,dP1,cD5,cf1,bw3,cc4,cc2,cc0]
def dyS:List Sy.Spec:=[bO9,bP6]
def bgK:Tm:= .ite qch k37 T6
def dcU:Tm:= .ite (.lt y4 j9) j9 y4
def bz9:Tm:= .ite (.lt (.il 8) (.ite (.lt (.il 536) k8) (.il 536) k8)) (.ite (.lt (.il 536) k8) (.il 536) k8) (.il 8)
def a09:Tm:= .ite (.lt (.il 8) qed) qed (.il 8)
abbrev qhf:List (Nat × Tm):=[⟨14,V8⟩,⟨28,l4⟩,⟨37,i9⟩]
abbrev qhl:List (Nat × Tm):=[⟨37,bgK⟩]
abbrev qhg:List (Nat × Tm):=⟨14,(.il (-1))⟩::⟨28,l4⟩::qhl
abbrev wa7:List (Tq8 Cm):=[.d qaw,.d qbg,.d (.lt w6 y4)]
abbrev wbn:List (Tq8 Cm):=[.b qch,.l (.ret (.tup []) j8 (qhf) j5 j6),.l (.ret (.tup []) j8 (qhb) j5 j6)]
abbrev war:List (Tq8 Cm):=[.l (.ret (.tup []) j8 (qhg) j5 j6)]++wbn++[.l (.ret (.tup []) j8 (qhg) j5 j6),.l (.ret (.tup []) j8 (qhg) j5 j6)]
abbrev wap:List (Tq8 Cm):=war++wa7++war
theorem dd6:rnD prog f50 dcS [] false ⟨szB++rgB,[]⟩=some (fq8 ([.b qg1,.b qew]++wa7++[.b qcm]++wbn++wap++wa7++war) [[]]):=by kernel_rfl
abbrev qhh:List (Nat × Tm):=[⟨14,V8⟩,⟨28,l6⟩,⟨37,i9⟩]
abbrev qhi:List (Nat × Tm):=⟨14,(.il (-1))⟩::⟨28,l6⟩::qhl
abbrev was:List (Tq8 Cm):=[.l (.ret (.tup []) j8 (qhi) j5 j6),.b qch,.l (.ret (.tup []) j8 (qhh) j5 j6)]++waU++[.l (.ret (.tup []) j8 (qhi) j5 j6),.l (.ret (.tup []) j8 (qhi) j5 j6)]
abbrev waq:List (Tq8 Cm):=was++wa7++was
theorem dd5:rnD prog f50 dcS [] true ⟨szB++rgB,[]⟩=some (fq8 ([.b qg1,.b qew]++wa7++[.b qcm,.b qch,.l (.ret (.tup []) j8 (qhh) j5 j6)]++waU++waq++wa7++was) [[]]):=by kernel_rfl
abbrev qhj:List (Nat × Tm):=⟨14,(.il (-1))⟩::⟨15,i9⟩::⟨16,i9⟩::⟨21,i9⟩::⟨28,l6⟩::⟨31,qf7⟩::⟨32,qf6⟩::⟨33,qf5⟩::⟨35,qdj⟩::qhl
abbrev qhk:List (Nat × Tm):=⟨14,(.il (-1))⟩::⟨15,i9⟩::⟨16,i9⟩::⟨28,l6⟩::⟨35,qdj⟩::qhl
abbrev qhm:List (Nat × Tm):=⟨14,(.il (-1))⟩::⟨15,i9⟩::⟨16,i9⟩::⟨24,j9⟩::⟨25,dcU⟩::⟨28,l6⟩::⟨35,qe8⟩::qhl
abbrev wa1:List (Tq8 Cm):=[.d (.eq k21 i9),.b qgl,.l (.ret (.tup []) j8 (qhj) j5 j6),.l (.ret (.tup []) j8 (qhk) j5 j6),.l (.ret (.tup []) j8 (qhk) j5 j6)]
theorem dh1:rnD prog f104 dcS [.one (.c (.int .i64 j9))] true (V5 true [⟨.iv 0,-9223372036854775808,9223372036854775807⟩])=some (fq8 ([.d (.lt j9 (.add w6 l9)),.b (.lt y5 j9)]++wa1++[.d (.eq k21 i9),.b qgl,.l (.ret (.tup []) j8 (⟨14,(.il (-1))⟩::⟨15,i9⟩::⟨16,i9⟩::⟨21,i9⟩::⟨24,j9⟩::⟨25,dcU⟩::⟨28,l6⟩::⟨31,qf7⟩::⟨32,qf6⟩::⟨33,qf5⟩::⟨35,qe8⟩::qhl) j5 j6),.l (.ret (.tup []) j8 (qhm) j5 j6),.l (.ret (.tup []) j8 (qhm) j5 j6)]++wa1) [[]]):=by kernel_rfl
theorem dg2:rnD prog f56 dyS [.one (.agg W9)] false (V5 false sgB)=some (fq8 [.b qg8,.l (.ret (.tup []) j8 [⟨7,n8⟩,⟨9,bz9⟩,⟨10,p7⟩,⟨28,l6⟩,⟨29,l9⟩,⟨30,i9⟩,⟨34,bz9⟩,⟨35,(.mul u0 bz9)⟩,⟨36,u7⟩] qbx j6),.p,.l (.must (.le (.il 8) a09)),.a (.le (.il 8) a09),.p,.l (.must (.le a09 (.il 1000))),.a (.le a09 (.il 1000)),.l (.ret (.tup []) j8 [⟨7,n8⟩,⟨9,a09⟩,⟨10,p7⟩,⟨28,l6⟩,⟨29,l9⟩,⟨30,i9⟩,⟨34,a09⟩,⟨35,(.mul u0 a09)⟩,⟨36,u7⟩] qbx j6)] [[]]):=by kernel_rfl
theorem bt4(X:Cs)(is:List Int)(bs:List Bool)(ss:List ByteArray):(u9 (H8 X is bs ss) bgK).i=X.c.bgn:=by
 unfold bgK Cn.bgn;simp only[aD5,A7,A0,kdA]
theorem ao8{J:Env}(E:CnEnv J):∀ q∈dcS,q.Ok prog J:=by
 intro q hq;unfold dcS at hq;rcases aa.1 hq with rfl|hq
 .exact a94
 rcases aa.1 hq with rfl|hq
 .exact ce3 E.f E.o
 rcases aa.1 hq with rfl|hq
 .exact ce1 E.f E.o
 rcases aa.1 hq with rfl|hq
 .exact cd7 E.f E.o
 rcases aa.1 hq with rfl|hq
 .exact cd3 E.f E.o
 rcases aa.1 hq with rfl|hq
 .exact cd9 E.f E.o
 rcases aa.1 hq with rfl|hq
 .exact cd5 E.f E.o
 rcases aa.1 hq with rfl|hq
 .exact c40 E.f E.o
 rcases aa.1 hq with rfl|hq
 .exact c21 E.f E.o
 rcases aa.1 hq with rfl|hq
 .exact c33 E.f E.o
 rcases aa.1 hq with rfl|hq
 .exact cL6 E.f
 rcases aa.1 hq with rfl|hq
 .exact cf0 E.f
 rcases aa.1 hq with rfl|hq
 .exact bm6 E.g
 rcases aa.1 hq with rfl|hq
 .exact cc3 E.f
 rcases aa.1 hq with rfl|hq
 .exact cc1 E.f
 rcases aa.1 hq with rfl|hq
 .exact cb9 E.f
 cases hq
theorem bn1{c:Cn}(h:¬c.aI5):c.F6= { c with clk:= -1,bg:=c.bgn }:=by unfold Cn.F6;rw[if_neg h]
theorem cF0{c:Cn}(h:c.aI5)(h2:c.clk<0):c.F6= { c with clk:=c.now,bg:=c.now }:=by unfold Cn.F6;rw[if_pos h,if_pos h2]
theorem cF2{c:Cn}(h:c.aI5)(h2:¬c.clk<0):c.F6=c:=by unfold Cn.F6;rw[if_pos h,if_neg h2]
theorem cB8{w:World}{g:Nat}{a:Da}{X:Cs}(W:DcW w g a X)(hz:SzX X)(hr:RgX X.c):Calls prog 50 #[.pointer (some ⟨g,0,none⟩)] w (F7 fun v w'=>v= .tuple #[]/\aS6 w w' g (Y8 a g X.c.has) ⟨X.c.F6,X.L,X.R⟩):=by
 have r13:=hr.r13;cases hh:X.c.has with
 | false=>
   refine Y2 (is:=[]) (bs:=[]) (ss:=[]) (ao8 (L6 ..)) func50 rfl dd6 W hh ⟨aH3 (bE2 hz) (bw5 hr),fun t ht=>by cases ht⟩ ⟨?_,?_,?_,?_,?_,?_,?_,?_,?_,?_,?_,?_,?_,?_,?_,?_,?_,trivial⟩ rfl;all_goals
    intro hpc;replace hpc:A6 (H8 X [] [] []) _:=hpc;simp only[A6,tmA,F8,kdA,and_true]at hpc;first
     | (have e:=bn1 (c:=X.c) bN
        refine⟨fun N=>rfl,?_,fun _=>?_,fun _=>rfl,A4 _⟩
        .show({ E6 (H8 X [] [] []) X.c _ with bg:=X.c.F6.bg }:Cn)=X.c.F6;rw[e];simp only[E6,svA,ad9 hh,kdA,A0]
         done
        .show(E6 (H8 X [] [] []) X.c _).bg=X.c.F6.bg;rw[e];simp only[E6,svA,ad9 hh,kdA,A0,bt4]
         done)
     | (have e:=cF0 (c:=X.c) bN U
        refine⟨fun N=>rfl,?_,fun q=>?_,fun _=>rfl,A4 _⟩
        .show({ E6 (H8 X [] [] []) X.c _ with bg:=X.c.F6.bg }:Cn)=X.c.F6;rw[e];simp only[E6,svA,ad9 hh,kdA,A0]
         done
        .exfalso;have q:X.c.F6.clk<0:=q;rw[e]at q;have q:X.c.now<0:=q;omega)
     | (have e:=cF2 (c:=X.c) bN U
        refine⟨fun N=>rfl,?_,fun q=>?_,fun _=>rfl,A4 _⟩
        .show({ E6 (H8 X [] [] []) X.c _ with bg:=X.c.F6.bg }:Cn)=X.c.F6;rw[e];simp only[E6,svA,ad9 hh]
         done
        .exfalso;have q:X.c.F6.clk<0:=q;rw[e]at q;omega)
 | true=>
   refine Y2 (is:=[]) (bs:=[]) (ss:=[]) (ao8 (L6 ..)) func50 rfl dd5 W hh ⟨aH3 (bE2 hz) (bw5 hr),fun t ht=>by cases ht⟩ ⟨?_,?_,?_,?_,?_,?_,?_,?_,?_,?_,?_,?_,?_,?_,?_,?_,?_,trivial⟩ rfl;all_goals
    intro hpc;replace hpc:A6 (H8 X [] [] []) _:=hpc;simp only[A6,tmA,F8,kdA,and_true]at hpc;first
     | (have e:=bn1 (c:=X.c) bN
        refine⟨fun N=>rfl,?_,fun _=>?_,fun _=>rfl,A4 _⟩
        .show({ E6 (H8 X [] [] []) X.c _ with bg:=X.c.F6.bg }:Cn)=X.c.F6;rw[e];simp only[E6,svA,ad9 hh,kdA,A0]
         done
        .show(E6 (H8 X [] [] []) X.c _).bg=X.c.F6.bg;rw[e];simp only[E6,svA,ad9 hh,kdA,A0,bt4]
         done)
     | (have e:=cF0 (c:=X.c) bN U
        refine⟨fun N=>rfl,?_,fun q=>?_,fun _=>rfl,A4 _⟩
        .show({ E6 (H8 X [] [] []) X.c _ with bg:=X.c.F6.bg }:Cn)=X.c.F6;rw[e];simp only[E6,svA,ad9 hh,kdA,A0]
         done
        .exfalso;have q:X.c.F6.clk<0:=q;rw[e]at q;have q:X.c.now<0:=q;omega)
     | (have e:=cF2 (c:=X.c) bN U
        refine⟨fun N=>rfl,?_,fun q=>?_,fun _=>rfl,A4 _⟩
        .show({ E6 (H8 X [] [] []) X.c _ with bg:=X.c.F6.bg }:Cn)=X.c.F6;rw[e];simp only[E6,svA,ad9 hh]
         done
        .exfalso;have q:X.c.F6.clk<0:=q;rw[e]at q;omega)
theorem T9{v:Value}{X':Cs}{u:Bn->Value}{c:Cn}{L:Rws}{R:List Int}(h0:∀ N,u N=v)(h1:c=X'.c)(h2:X'.c.has=true->L=X'.L)(h3:R=X'.R):aq1 v X' u c L R:=by
 subst h1;exact⟨h0,rfl,fun _=>rfl,h2,h3⟩
theorem eE9{c:Cn}{a:Int}(h:a<c.una+1\/c.snt<a):(c.ou.ack a).una=c.una/\(c.ou.ack a).cur=c.cur/\c.ou.ad1 a=0:=by
 unfold Ou.ack Ou.ad1 Cn.ou;simp only;rw[if_pos h,if_pos h];exact⟨rfl,rfl,rfl⟩
theorem dk3{c:Cn}{a:Int}(h:¬(a<c.una+1\/c.snt<a)):(c.ou.ack a).una=a/\(c.ou.ack a).cur=max c.cur a/\c.ou.ad1 a=a - c.una:=by
 unfold Ou.ack Ou.ad1 Cn.ou;simp only;rw[if_neg h,if_neg h];exact⟨rfl,rfl,rfl⟩
theorem b04{w:World}{g:Nat}{a:Da}{X:Cs}(W:DcW w g a X)(hz:SzX X)(hr:RgX X.c)(hh:X.c.has=true){at_:Int}(h0: -9223372036854775808<=at_)(h1:at_<=9223372036854775807):
 Calls prog 104 #[.pointer (some ⟨g,0,none⟩), .int .i64 at_] w (F7 fun v w'=>v= .tuple #[]/\aS6 w w' g (Y8 a g true) ⟨X.c.V7 at_,X.L,X.R⟩):=by
 have m0:=hr.r21;have em:(u9 (H8 X [at_] [] []) dcU).i=max X.c.cur at_:=by
  have i0:(H8 X [at_] [] []).i 0=at_:=rfl;unfold dcU;simp only[aD5,A7,kdA,F0,i0];split<;>omega
 refine Y2 (is:=[at_]) (bs:=[]) (ss:=[]) (ao8 (L6 ..)) func104 rfl dh1 W hh (Z1 hh hz hr (Z6 ⟨⟨h0,h1⟩,trivial⟩)) ⟨?_,?_,?_,?_,?_,?_,?_,?_,?_,trivial⟩ rfl;all_goals
  intro hpc;have i0:(H8 X [at_] [] []).i 0=at_:=rfl;replace hpc:A6 (H8 X [at_] [] []) _:=hpc;simp only[A6,tmA,F8,kdA,i0,and_true]at hpc;refine T9 (fun N=>rfl) ?_ (fun _=>rfl) (A4 _);show E6 (H8 X [at_] [] []) X.c _=X.c.V7 at_;rw[aZ7];first
   | (have e:=eE9 (c:=X.c) (a:=at_) U
      rw[e.1,e.2.1,e.2.2])
   | (have e:=dk3 (c:=X.c) (a:=at_) U
      rw[e.1,e.2.1,e.2.2])
  first
   | rw[if_pos U]
   | rw[if_neg U]
  simp only[E6,svA,ad9 hh,em,bt4,A0];rfl
end Go.Proofs.YtnlcpcmdlcakgaaGreat
