/- A part of the proof that a connection answers as the document says: CnY CnZ Co0 Cd4. -/
import Derived.Test.YtnlcpcmdlcakgaaGreatKh33
import Derived.Test.YtnlcpcmdlcakgaaGreatKh34
set_option maxRecDepth 100000
set_option maxHeartbeats 4000000
set_option linter.unusedVariables false
set_option linter.unusedSimpArgs false
set_option linter.unusedSectionVars false
open Go.Proofs.Tryz
namespace Go.Proofs.YtnlcpcmdlcakgaaGreat
open Go.RowKit Sy
abbrev sgE(X:Cs)(s:Sg)(at_:Int):Env:=H8 X [s.fa,s.fp,s.ta,s.tp,s.sq,s.ak,s.win,s.mss,at_] [s.syn,s.hak,s.fin,s.rst] [s.body]
section
variable(X:Cs)(s:Sg)(at_:Int)
theorem aI2:(u9 (sgE X s at_) kA).i=X.c.B5 s:=rfl
theorem sgf:(sgE X s at_).f=cnF:=rfl
theorem se6:(sgE X s at_).i 6=s.win:=rfl
theorem se8:(sgE X s at_).i 8=at_:=rfl
end
theorem b14{X:Cs}{s:Sg}(hs:SgIn s){at_:Int}(h0: -9223372036854775808<=at_)(h1:at_<=9223372036854775807):X5 (sgE X s at_) asB:=by
 have hs8:(0:Int)<=(s.body.size:Int)/\(s.body.size:Int)<=1000:=by have:=hs.h8;omega
 exact Z6 ⟨⟨h0,h1⟩,hs.h0,hs.h1,hs.h2,hs.h3,hs.h4,hs.h5,hs.h6,hs.h7,hs8,trivial⟩
theorem aJ7{w:World}{g:Nat}{a:Pa}{X:Cs}(W:PcW w g a X)(hz:SzX X)(hr:RgX X.c)(hh:X.c.has=true){s:Sg}(hs:SgIn s){at_:Int}(h0: -9223372036854775808<=at_)(h1:at_<=9223372036854775807){l:List Tm}{ys:List Cm}
 (hrun:rnC prog f102 asS [.one (.agg W9), .one (.c (.int .i64 s6))] true ⟨(V5 true asB).bs,l⟩=some ys) (hl:A6 (sgE X s at_) l) {v:Value} {X':Cs}
 (hR:aC6 (Cm.bI1 (sgE X s at_) X.c (bd9 v X')) ys):Calls prog 102 #[.pointer (some ⟨g,0,none⟩),sgV s, .int .i64 at_] w (F7 fun v' w'=>v'=v/\aS4 w w' g (X4 a g true) X'):=
 aA0 (is:=[s.fa,s.fp,s.ta,s.tp,s.sq,s.ak,s.win,s.mss,at_]) (bs:=[s.syn,s.hak,s.fin,s.rst]) (ss:=[s.body]) (eE3 (L6 ..)) func102 rfl hrun W hh (cxF (Z1 hh hz hr (b14 hs h0 h1)).bs (a73 hl)) hR rfl
theorem bZ6{c:Cn}{v a:Int}(h:c.has=true):((c.wSt v).V7 a).has=true:=(aR1 (c.wSt v) a).2.trans h
theorem bn6{c:Cn}{a:Int}(h:c.has=true):(c.V7 a).has=true:=(aR1 c a).2.trans h
theorem X6{Z Z':Cn}{b:Bool}{L:Rws}{R:List Int}{u:Bn->Value}{c:Cn}{L':Rws}{R':List Int}(h:Z.aJ0=Z'/\Z.aP9=b)(hG:bd9 (.bool b) ⟨Z',L,R⟩ u c L' R'):bd9 (.bool Z.aP9) ⟨Z.aJ0,L,R⟩ u c L' R':=by
 rw[h.1,h.2];exact hG
section
variable{X:Cs}{s:Sg}{at_:Int}(hh:X.c.has=true)
include hh
theorem yA0:B4 (sgE X s at_) qae =X.c.V7 (X.c.B5 s):=by
 rw[bI2 rfl,ac4 rfl bO,V4,aI2]
theorem yAv(v:Int):B4 (sgE X s at_) (.ap 122 (.ap 92 o6 (.ap 91 s8 j8 (.il v)) l6) kA i9)=(X.c.wSt v).V7 (X.c.B5 s):=by
 rw[bI2 rfl,ac4 rfl (by rw[y_4 rfl,V4];exact hh),y_4 rfl,V4,aI2];rfl
end
theorem az3(c:Cn)(a:Int):(c.V7 a).why=c.why/\(c.V7 a).st=c.st:=by
 rw[aZ7];split<;>exact⟨rfl,rfl⟩
section
variable{w:World}{g:Nat}{a:Pa}{X:Cs}(W:PcW w g a X)(hz:SzX X)(hr:RgX X.c)(hh:X.c.has=true){s:Sg}(hs:SgIn s){at_:Int}(h0: -9223372036854775808<=at_)(h1:at_<=9223372036854775807)
include W hz hr hh hs h0 h1
def aG2(w:World)(g:Nat)(a:Pa)(X:Cs)(s:Sg)(at_:Int):Prop:=Calls prog 102 #[.pointer (some ⟨g,0,none⟩),sgV s, .int .i64 at_] w (F7 fun v' w'=>v'= .bool (X.c.aE9 s at_)/\aS4 w w' g (X4 a g true) ⟨X.c.Z4 s at_,X.L,X.R++X.c.aC5 s⟩)
theorem eE8(h:X.c.Z2 s):aG2 w g a X s at_:=by
 unfold aG2;obtain⟨e1,e2,e3⟩:=Cn.cA7 h at_;rw[e1,e2,e3];have h2:X.c.st=2:=h.1;by_cases q:X.c.B5 s<1
 .refine aJ7 W hz hr hh hs h0 h1 dl3 ?_ ⟨?_,trivial⟩
  .simp only[A6,tmA,F8,kdA,aI2,and_true];exact⟨h2,q⟩
  .intro hpc;refine⟨fun N=>rfl,?_,fun _=>rfl,aY0 X s.ak⟩;show({ E6 (sgE X s at_) X.c _ with bg:=X.c.bg }:Cn)=X.c;simp only[E6,svA,aC1 hh]
 .refine aJ7 W hz hr hh hs h0 h1 dl2 ?_ ⟨?_,trivial⟩
  .simp only[A6,tmA,F8,kdA,aI2,and_true];have:=h.2;omega
  .intro hpc;refine⟨fun N=>rfl,?_,fun _=>rfl,aY0 X s.ak⟩;show({ E6 (sgE X s at_) X.c _ with bg:=X.c.bg }:Cn)=X.c;simp only[E6,svA,aC1 hh]
theorem eE7(h:¬X.c.Z2 s)(h2:X.c.snt<X.c.B5 s):aG2 w g a X s at_:=by
 unfold aG2;obtain⟨e1,e2,e3⟩:=Cn.cA6 h h2 at_;have h4:¬X.c.st=2:=fun q=>h ⟨q, .inr h2⟩
 rw[e1,e2,e3,ao,Cn.aj7 h4];refine aJ7 W hz hr hh hs h0 h1 dl6 ?_ ⟨?_,trivial⟩
 .simp only[A6,tmA,F8,kdA,aI2,and_true];exact⟨h4,h2⟩
 .intro hpc;refine⟨fun N=>rfl,?_,fun _=>rfl,A4 _⟩;show({ E6 (sgE X s at_) X.c _ with bg:=X.c.bg }:Cn)=_;simp only[E6,svA];rw[aC1 (b:=true) bE];rfl
theorem eE6(h:¬X.c.Z2 s)(h2:¬X.c.snt<X.c.B5 s)(hy:¬X.c.st=0->X.c.why=0)(h3:¬X.c.una<X.c.B5 s)(h4:¬X.c.B5 s=X.c.una):aG2 w g a X s at_:=by
 unfold aG2;obtain⟨e1,e2,e3⟩:=Cn.aE8 h h2 at_;rw[e1,e2,e3,ao,Cn.cs6 h3 h4 (Cn.be2 _)];by_cases h5:X.c.st=2
 .have h6:¬X.c.B5 s<1:=fun q=>h ⟨h5, .inl q⟩
  refine aJ7 W hz hr hh hs h0 h1 dl0 ?_ ⟨?_,?_,?_,trivial⟩
  .simp only[A6,tmA,F8,kdA,aI2,and_true];exact⟨h5,h6,h2,h3,h4⟩
  all_goals
   intro hpc;replace hpc:A6 (sgE X s at_) _:=hpc;simp only[A6,tmA,F8,kdA,aI2,se6,se8,q_4 (sgf X s at_),q_5 (sgf X s at_),aq7 (sgf X s at_),aq6 (sgf X s at_),af2 (sgf X s at_),aq5 (sgf X s at_),yA0 hh,yAv hh,and_true]at hpc
   (repeat(obtain⟨_,hpc⟩:=hpc))
   first
    | rw[Cn.ar7 h5 bC]
    | rw[Cn.ar8 h5 bC]
   (first|refine X6 (Cn.aN7 bz) ?_|refine X6 (Cn.aN6 bz bz) ?_|refine X6 (Cn.aN8 bz bz bz) ?_|refine giv4 (Cn.a4_7 bz bz bz) ?_|refine giv4 (Cn.a4_8 bz bz bz) ?_|refine giv4 (Cn.a4_o bz bz bz bz bz) ?_)
   refine⟨fun N=>rfl,?_,fun _=>rfl,A4 _⟩;show({ E6 (sgE X s at_) X.c _ with bg:=_ }:Cn)=_;simp only[E6,svA];rw[aC1 (b:=true) bE];rfl
 .rw[Cn.aj7 h5];refine aJ7 W hz hr hh hs h0 h1 dl4 ?_ ⟨?_,?_,?_,?_,?_,?_,trivial⟩
  .simp only[A6,tmA,F8,kdA,aI2,and_true];exact⟨h5,h2,h3,h4⟩
  all_goals
   intro hpc;replace hpc:A6 (sgE X s at_) _:=hpc;simp only[A6,tmA,F8,kdA,aI2,se6,se8,q_4 (sgf X s at_),q_5 (sgf X s at_),aq7 (sgf X s at_),aq6 (sgf X s at_),af2 (sgf X s at_),aq5 (sgf X s at_),yA0 hh,yAv hh,and_true]at hpc
   (repeat(obtain⟨_,hpc⟩:=hpc))
   (first|refine X6 (Cn.aN7 bz) ?_|refine X6 (Cn.aN6 bz bz) ?_|refine X6 (Cn.aN8 bz bz bz) ?_|refine X6 (Cn.ak2 bz bz bz) ?_|refine X6 (Cn.ak1 bz bz bz) ?_|refine X6 (Cn.ak0 bz bz bz bz bz) ?_)
   refine⟨fun N=>rfl,?_,fun _=>rfl,A4 _⟩;show({ E6 (sgE X s at_) X.c _ with bg:=_ }:Cn)=_;simp only[E6,svA,z7,kdA,A0];rw[aC1 (b:=true) bE]<;>first
    | rfl
    | (rw[hy U];done)
    | (rw[hy U];rfl)
    | (have e:=hy U;rw[<-e])
theorem eE5(h:¬X.c.Z2 s)(h2:¬X.c.snt<X.c.B5 s)(hy:¬X.c.st=0->X.c.why=0)(h3:X.c.una<X.c.B5 s):aG2 w g a X s at_:=by
 unfold aG2;obtain⟨e1,e2,e3⟩:=Cn.aE8 h h2 at_;rw[e1,e2,e3,ao,Cn.cs7 h3 (Cn.be2 _)];have hA0:(X.c.V7 (X.c.B5 s)).has=true:=bn6 hh;have hA4:∀ v,((X.c.wSt v).V7 (X.c.B5 s)).has=true:=fun v=>bZ6 hh
 have hw0:(X.c.V7 (X.c.B5 s)).why=X.c.why/\(X.c.V7 (X.c.B5 s)).st=X.c.st:=az3 ..;have hw4:∀ v,((X.c.wSt v).V7 (X.c.B5 s)).why=X.c.why/\((X.c.wSt v).V7 (X.c.B5 s)).st=v:=fun v=>az3 ..
 by_cases h5:X.c.st=2
 .have h6:¬X.c.B5 s<1:=fun q=>h ⟨h5, .inl q⟩
  have hwy:X.c.why=0:=hy U;refine aJ7 W hz hr hh hs h0 h1 dl1 ?_ ⟨?_,?_,?_,?_,?_,?_,?_,?_,?_,?_,?_,?_,trivial⟩
  .simp only[A6,tmA,F8,kdA,aI2,and_true];exact⟨h5,h6,h2,h3⟩
  all_goals
   intro hpc;replace hpc:A6 (sgE X s at_) _:=hpc;simp only[A6,tmA,F8,kdA,aI2,se6,se8,q_4 (sgf X s at_),q_5 (sgf X s at_),aq7 (sgf X s at_),aq6 (sgf X s at_),af2 (sgf X s at_),aq5 (sgf X s at_),yA0 hh,yAv hh,and_true]at hpc
   (repeat(obtain⟨_,hpc⟩:=hpc))
   first
    | rw[Cn.ar7 h5 bC]
    | rw[Cn.ar8 h5 bC]
   (first|refine X6 (Cn.aN7 bz) ?_|refine X6 (Cn.aN6 bz bz) ?_|refine X6 (Cn.aN8 bz bz bz) ?_|refine X6 (Cn.ak2 bz bz bz) ?_|refine X6 (Cn.ak1 bz bz bz) ?_|refine X6 (Cn.ak0 bz bz bz bz bz) ?_)
   refine⟨fun N=>rfl,?_,fun _=>rfl,A4 _⟩;show({ E6 (sgE X s at_) (B4 (sgE X s at_) _) _ with bg:=_ }:Cn)=_;rw[yAv hh];simp only[E6,svA,z7,q_4 (sgf X s at_),q_5 (sgf X s at_),aq7 (sgf X s at_),aq6 (sgf X s at_),af2 (sgf X s at_),aq5 (sgf X s at_),yAv hh,kdA,A0];rw[aC1 (b:=true) (by exact hA4 _)]<;>first
    | rfl
    | (have e:=(hw4 4).1.trans hwy;rw[<-e];rfl)
    | (have e:=(hw4 3).1.trans hwy;rw[<-e];rfl)
 .rw[Cn.aj7 h5];refine aJ7 W hz hr hh hs h0 h1 dl5 ?_ ⟨?_,?_,?_,?_,?_,?_,trivial⟩
  .simp only[A6,tmA,F8,kdA,aI2,and_true];exact⟨h5,h2,h3⟩
  all_goals
   intro hpc;replace hpc:A6 (sgE X s at_) _:=hpc;simp only[A6,tmA,F8,kdA,aI2,se6,se8,q_4 (sgf X s at_),q_5 (sgf X s at_),aq7 (sgf X s at_),aq6 (sgf X s at_),af2 (sgf X s at_),aq5 (sgf X s at_),yA0 hh,yAv hh,and_true]at hpc
   (repeat(obtain⟨_,hpc⟩:=hpc))
   (first|refine X6 (Cn.aN7 bz) ?_|refine X6 (Cn.aN6 bz bz) ?_|refine X6 (Cn.aN8 bz bz bz) ?_|refine X6 (Cn.ak2 bz bz bz) ?_|refine X6 (Cn.ak1 bz bz bz) ?_|refine X6 (Cn.ak0 bz bz bz bz bz) ?_)
   refine⟨fun N=>rfl,?_,fun _=>rfl,A4 _⟩;show({ E6 (sgE X s at_) (B4 (sgE X s at_) _) _ with bg:=_ }:Cn)=_;rw[yA0 hh];simp only[E6,svA,z7,q_4 (sgf X s at_),q_5 (sgf X s at_),aq7 (sgf X s at_),aq6 (sgf X s at_),af2 (sgf X s at_),aq5 (sgf X s at_),yA0 hh,kdA,A0];rw[aC1 (b:=true) (by exact hA0)]<;>first
    | rfl
    | (have e:=hw0.1.trans (hy U);rw[<-e];rfl)
omit W in
theorem aT0:(u9 (sgE X s at_) sgL).i=s.len:=by
 unfold sgL;rw[bJ2 (cxF (Z1 hh hz hr (b14 hs h0 h1)).bs (fun t ht=>by cases ht))];rfl
theorem cm3(h:¬X.c.Z2 s)(h2:¬X.c.snt<X.c.B5 s)(hy:¬X.c.st=0->X.c.why=0)(h3:X.c.B5 s=X.c.una)(h5:X.c.st=2)(hx:¬s.len=0):aG2 w g a X s at_:=by
 unfold aG2;obtain⟨e1,e2,e3⟩:=Cn.aE8 h h2 at_;rw[e1,e2,e3,ao];have hd:¬(s.len=0/\X.c.una<X.c.cur/\s.win=X.c.wnd):=fun q=>hx q.1
 have h7:¬X.c.una<X.c.B5 s:=by omega
 have h6:¬X.c.B5 s<1:=fun q=>h ⟨h5, .inl q⟩
 .refine aJ7 W hz hr hh hs h0 h1 c85 ?_ ⟨?_,?_,?_,?_,?_,?_,?_,?_,?_,?_,?_,?_,trivial⟩
  .simp only[A6,tmA,F8,kdA,aI2,aT0 hz hr hh hs h0 h1,se6,and_true];exact⟨h5,h6,h2,h7,h3,hx⟩
  all_goals
   intro hpc;replace hpc:A6 (sgE X s at_) _:=hpc;simp only[A6,tmA,F8,kdA,aI2,aT0 hz hr hh hs h0 h1,se6,se8,and_true]at hpc
   (repeat(obtain⟨_,hpc⟩:=hpc))
   first
    | rw[Cn.aQ8 h3 hd U]
    | rw[Cn.aQ7 h3 hd U]
   first
    | rw[Cn.ar7 h5 bC]
    | rw[Cn.ar8 h5 bC]
   (first|refine X6 (Cn.aN7 bz) ?_|refine X6 (Cn.aN6 bz bz) ?_|refine X6 (Cn.aN8 bz bz bz) ?_|refine giv4 (Cn.a4_7 bz bz bz) ?_|refine giv4 (Cn.a4_8 bz bz bz) ?_|refine giv4 (Cn.a4_o bz bz bz bz bz) ?_)
   refine⟨fun N=>rfl,?_,fun _=>rfl,A4 _⟩;show({ E6 (sgE X s at_) X.c _ with bg:=_ }:Cn)=_;simp only[E6,svA,z7,kdA,A0];rw[aC1 (b:=true) bE]<;>first
    | rfl
    | (rw[hy U];done)
    | (rw[hy U];rfl)
    | (have e:=hy U;rw[<-e])
    | (have e:=hy U;rw[<-e];rfl)
theorem cm2(h:¬X.c.Z2 s)(h2:¬X.c.snt<X.c.B5 s)(hy:¬X.c.st=0->X.c.why=0)(h3:X.c.B5 s=X.c.una)(h5:X.c.st=2)(hx:s.len=0)(hx2:¬X.c.una<X.c.cur):aG2 w g a X s at_:=by
 unfold aG2;obtain⟨e1,e2,e3⟩:=Cn.aE8 h h2 at_;rw[e1,e2,e3,ao];have hd:¬(s.len=0/\X.c.una<X.c.cur/\s.win=X.c.wnd):=fun q=>hx2 q.2.1
 have h7:¬X.c.una<X.c.B5 s:=by omega
 have h6:¬X.c.B5 s<1:=fun q=>h ⟨h5, .inl q⟩
 .refine aJ7 W hz hr hh hs h0 h1 c84 ?_ ⟨?_,?_,?_,?_,?_,?_,?_,?_,?_,?_,?_,?_,trivial⟩
  .simp only[A6,tmA,F8,kdA,aI2,aT0 hz hr hh hs h0 h1,se6,and_true];exact⟨h5,h6,h2,h7,h3,hx,hx2⟩
  all_goals
   intro hpc;replace hpc:A6 (sgE X s at_) _:=hpc;simp only[A6,tmA,F8,kdA,aI2,aT0 hz hr hh hs h0 h1,se6,se8,and_true]at hpc
   (repeat(obtain⟨_,hpc⟩:=hpc))
   first
    | rw[Cn.aQ8 h3 hd U]
    | rw[Cn.aQ7 h3 hd U]
   first
    | rw[Cn.ar7 h5 bC]
    | rw[Cn.ar8 h5 bC]
   (first|refine X6 (Cn.aN7 bz) ?_|refine X6 (Cn.aN6 bz bz) ?_|refine X6 (Cn.aN8 bz bz bz) ?_|refine giv4 (Cn.a4_7 bz bz bz) ?_|refine giv4 (Cn.a4_8 bz bz bz) ?_|refine giv4 (Cn.a4_o bz bz bz bz bz) ?_)
   refine⟨fun N=>rfl,?_,fun _=>rfl,A4 _⟩;show({ E6 (sgE X s at_) X.c _ with bg:=_ }:Cn)=_;simp only[E6,svA,z7,kdA,A0];rw[aC1 (b:=true) bE]<;>first
    | rfl
    | (rw[hy U];done)
    | (rw[hy U];rfl)
    | (have e:=hy U;rw[<-e])
    | (have e:=hy U;rw[<-e];rfl)
theorem cm1(h:¬X.c.Z2 s)(h2:¬X.c.snt<X.c.B5 s)(hy:¬X.c.st=0->X.c.why=0)(h3:X.c.B5 s=X.c.una)(h5:X.c.st=2)(hx:s.len=0)(hx2:X.c.una<X.c.cur)(hx3:¬s.win=X.c.wnd):aG2 w g a X s at_:=by
 unfold aG2;obtain⟨e1,e2,e3⟩:=Cn.aE8 h h2 at_;rw[e1,e2,e3,ao];have hd:¬(s.len=0/\X.c.una<X.c.cur/\s.win=X.c.wnd):=fun q=>hx3 q.2.2
 have h7:¬X.c.una<X.c.B5 s:=by omega
 have h6:¬X.c.B5 s<1:=fun q=>h ⟨h5, .inl q⟩
 .refine aJ7 W hz hr hh hs h0 h1 c83 ?_ ⟨?_,?_,?_,?_,?_,?_,?_,?_,?_,?_,?_,?_,trivial⟩
  .simp only[A6,tmA,F8,kdA,aI2,aT0 hz hr hh hs h0 h1,se6,and_true];exact⟨h5,h6,h2,h7,h3,hx,hx2,hx3⟩
  all_goals
   intro hpc;replace hpc:A6 (sgE X s at_) _:=hpc;simp only[A6,tmA,F8,kdA,aI2,aT0 hz hr hh hs h0 h1,se6,se8,and_true]at hpc
   (repeat(obtain⟨_,hpc⟩:=hpc))
   first
    | rw[Cn.aQ8 h3 hd U]
    | rw[Cn.aQ7 h3 hd U]
   first
    | rw[Cn.ar7 h5 bC]
    | rw[Cn.ar8 h5 bC]
   (first|refine X6 (Cn.aN7 bz) ?_|refine X6 (Cn.aN6 bz bz) ?_|refine X6 (Cn.aN8 bz bz bz) ?_|refine giv4 (Cn.a4_7 bz bz bz) ?_|refine giv4 (Cn.a4_8 bz bz bz) ?_|refine giv4 (Cn.a4_o bz bz bz bz bz) ?_)
   refine⟨fun N=>rfl,?_,fun _=>rfl,A4 _⟩;show({ E6 (sgE X s at_) X.c _ with bg:=_ }:Cn)=_;simp only[E6,svA,z7,kdA,A0];rw[aC1 (b:=true) bE]<;>first
    | rfl
    | (rw[hy U];done)
    | (rw[hy U];rfl)
    | (have e:=hy U;rw[<-e])
    | (have e:=hy U;rw[<-e];rfl)
theorem cm0(h:¬X.c.Z2 s)(h2:¬X.c.snt<X.c.B5 s)(hy:¬X.c.st=0->X.c.why=0)(h3:X.c.B5 s=X.c.una)(h5:X.c.st=2)(hx:s.len=0)(hx2:X.c.una<X.c.cur)(hx3:s.win=X.c.wnd):aG2 w g a X s at_:=by
 unfold aG2;obtain⟨e1,e2,e3⟩:=Cn.aE8 h h2 at_;rw[e1,e2,e3,ao];have hd:s.len=0/\X.c.una<X.c.cur/\s.win=X.c.wnd:=⟨hx,hx2,hx3⟩;have h7:¬X.c.una<X.c.B5 s:=by omega
 have h6:¬X.c.B5 s<1:=fun q=>h ⟨h5, .inl q⟩
 .refine aJ7 W hz hr hh hs h0 h1 c82 ?_ ⟨?_,?_,?_,?_,?_,?_,?_,?_,?_,?_,?_,?_,?_,?_,?_,?_,?_,?_,?_,?_,?_,?_,?_,?_,trivial⟩
  .simp only[A6,tmA,F8,kdA,aI2,aT0 hz hr hh hs h0 h1,se6,and_true];exact⟨h5,h6,h2,h7,h3,hx,hx2,hx3⟩
  all_goals
   intro hpc;replace hpc:A6 (sgE X s at_) _:=hpc;simp only[A6,tmA,F8,kdA,aI2,aT0 hz hr hh hs h0 h1,se6,se8,and_true]at hpc
   (repeat(obtain⟨_,hpc⟩:=hpc))
   first
    | rw[Cn.bM8 h3 hd U]
    | rw[Cn.bM7 h3 hd U]
   first
    | rw[Cn.ar7 h5 bC]
    | rw[Cn.ar8 h5 bC]
   first
    | rw[Cn.bv2 bC]
    | rw[Cn.bv1 bC]
   (first|refine X6 (Cn.aN7 bz) ?_|refine X6 (Cn.aN6 bz bz) ?_|refine X6 (Cn.aN8 bz bz bz) ?_|refine giv4 (Cn.a4_7 bz bz bz) ?_|refine giv4 (Cn.a4_8 bz bz bz) ?_|refine giv4 (Cn.a4_o bz bz bz bz bz) ?_)
   refine⟨fun N=>rfl,?_,fun _=>rfl,A4 _⟩;show({ E6 (sgE X s at_) X.c _ with bg:=_ }:Cn)=_;simp only[E6,svA,z7,kdA,A0];rw[aC1 (b:=true) bE]<;>first
    | rfl
    | (rw[hy U];done)
    | (rw[hy U];rfl)
    | (have e:=hy U;rw[<-e])
    | (have e:=hy U;rw[<-e];rfl)
theorem cm7(h:¬X.c.Z2 s)(h2:¬X.c.snt<X.c.B5 s)(hy:¬X.c.st=0->X.c.why=0)(h3:X.c.B5 s=X.c.una)(h5:¬X.c.st=2)(hx:¬s.len=0):aG2 w g a X s at_:=by
 unfold aG2;obtain⟨e1,e2,e3⟩:=Cn.aE8 h h2 at_;rw[e1,e2,e3,ao];have hd:¬(s.len=0/\X.c.una<X.c.cur/\s.win=X.c.wnd):=fun q=>hx q.1
 have h7:¬X.c.una<X.c.B5 s:=by omega
 .refine aJ7 W hz hr hh hs h0 h1 c89 ?_ ⟨?_,?_,?_,?_,?_,?_,?_,?_,?_,?_,?_,?_,?_,?_,?_,?_,?_,?_,?_,?_,?_,?_,?_,?_,trivial⟩
  .simp only[A6,tmA,F8,kdA,aI2,aT0 hz hr hh hs h0 h1,se6,and_true];exact⟨h5,h2,h7,h3,hx⟩
  all_goals
   intro hpc;replace hpc:A6 (sgE X s at_) _:=hpc;simp only[A6,tmA,F8,kdA,aI2,aT0 hz hr hh hs h0 h1,se6,se8,and_true]at hpc
   (repeat(obtain⟨_,hpc⟩:=hpc))
   first
    | rw[Cn.aQ8 h3 hd U]
    | rw[Cn.aQ7 h3 hd U]
   rw[Cn.aj7 h5]
   (first|refine X6 (Cn.aN7 bz) ?_|refine X6 (Cn.aN6 bz bz) ?_|refine X6 (Cn.aN8 bz bz bz) ?_|refine X6 (Cn.ak2 bz bz bz) ?_|refine X6 (Cn.ak1 bz bz bz) ?_|refine X6 (Cn.ak0 bz bz bz bz bz) ?_)
   refine⟨fun N=>rfl,?_,fun _=>rfl,A4 _⟩;show({ E6 (sgE X s at_) X.c _ with bg:=_ }:Cn)=_;simp only[E6,svA,z7,kdA,A0];rw[aC1 (b:=true) bE]<;>first
    | rfl
    | (rw[hy U];done)
    | (rw[hy U];rfl)
    | (have e:=hy U;rw[<-e])
    | (have e:=hy U;rw[<-e];rfl)
theorem cm6(h:¬X.c.Z2 s)(h2:¬X.c.snt<X.c.B5 s)(hy:¬X.c.st=0->X.c.why=0)(h3:X.c.B5 s=X.c.una)(h5:¬X.c.st=2)(hx:s.len=0)(hx2:¬X.c.una<X.c.cur):aG2 w g a X s at_:=by
 unfold aG2;obtain⟨e1,e2,e3⟩:=Cn.aE8 h h2 at_;rw[e1,e2,e3,ao];have hd:¬(s.len=0/\X.c.una<X.c.cur/\s.win=X.c.wnd):=fun q=>hx2 q.2.1
 have h7:¬X.c.una<X.c.B5 s:=by omega
 .refine aJ7 W hz hr hh hs h0 h1 c88 ?_ ⟨?_,?_,?_,?_,?_,?_,?_,?_,?_,?_,?_,?_,?_,?_,?_,?_,?_,?_,?_,?_,?_,?_,?_,?_,trivial⟩
  .simp only[A6,tmA,F8,kdA,aI2,aT0 hz hr hh hs h0 h1,se6,and_true];exact⟨h5,h2,h7,h3,hx,hx2⟩
  all_goals
   intro hpc;replace hpc:A6 (sgE X s at_) _:=hpc;simp only[A6,tmA,F8,kdA,aI2,aT0 hz hr hh hs h0 h1,se6,se8,and_true]at hpc
   (repeat(obtain⟨_,hpc⟩:=hpc))
   first
    | rw[Cn.aQ8 h3 hd U]
    | rw[Cn.aQ7 h3 hd U]
   rw[Cn.aj7 h5]
   (first|refine X6 (Cn.aN7 bz) ?_|refine X6 (Cn.aN6 bz bz) ?_|refine X6 (Cn.aN8 bz bz bz) ?_|refine X6 (Cn.ak2 bz bz bz) ?_|refine X6 (Cn.ak1 bz bz bz) ?_|refine X6 (Cn.ak0 bz bz bz bz bz) ?_)
   refine⟨fun N=>rfl,?_,fun _=>rfl,A4 _⟩;show({ E6 (sgE X s at_) X.c _ with bg:=_ }:Cn)=_;simp only[E6,svA,z7,kdA,A0];rw[aC1 (b:=true) bE]<;>first
    | rfl
    | (rw[hy U];done)
    | (rw[hy U];rfl)
    | (have e:=hy U;rw[<-e])
    | (have e:=hy U;rw[<-e];rfl)
theorem cm5(h:¬X.c.Z2 s)(h2:¬X.c.snt<X.c.B5 s)(hy:¬X.c.st=0->X.c.why=0)(h3:X.c.B5 s=X.c.una)(h5:¬X.c.st=2)(hx:s.len=0)(hx2:X.c.una<X.c.cur)(hx3:¬s.win=X.c.wnd):aG2 w g a X s at_:=by
 unfold aG2;obtain⟨e1,e2,e3⟩:=Cn.aE8 h h2 at_;rw[e1,e2,e3,ao];have hd:¬(s.len=0/\X.c.una<X.c.cur/\s.win=X.c.wnd):=fun q=>hx3 q.2.2
 have h7:¬X.c.una<X.c.B5 s:=by omega
 .refine aJ7 W hz hr hh hs h0 h1 c87 ?_ ⟨?_,?_,?_,?_,?_,?_,?_,?_,?_,?_,?_,?_,?_,?_,?_,?_,?_,?_,?_,?_,?_,?_,?_,?_,trivial⟩
  .simp only[A6,tmA,F8,kdA,aI2,aT0 hz hr hh hs h0 h1,se6,and_true];exact⟨h5,h2,h7,h3,hx,hx2,hx3⟩
  all_goals
   intro hpc;replace hpc:A6 (sgE X s at_) _:=hpc;simp only[A6,tmA,F8,kdA,aI2,aT0 hz hr hh hs h0 h1,se6,se8,and_true]at hpc
   (repeat(obtain⟨_,hpc⟩:=hpc))
   first
    | rw[Cn.aQ8 h3 hd U]
    | rw[Cn.aQ7 h3 hd U]
   rw[Cn.aj7 h5]
   (first|refine X6 (Cn.aN7 bz) ?_|refine X6 (Cn.aN6 bz bz) ?_|refine X6 (Cn.aN8 bz bz bz) ?_|refine X6 (Cn.ak2 bz bz bz) ?_|refine X6 (Cn.ak1 bz bz bz) ?_|refine X6 (Cn.ak0 bz bz bz bz bz) ?_)
   refine⟨fun N=>rfl,?_,fun _=>rfl,A4 _⟩;show({ E6 (sgE X s at_) X.c _ with bg:=_ }:Cn)=_;simp only[E6,svA,z7,kdA,A0];rw[aC1 (b:=true) bE]<;>first
    | rfl
    | (rw[hy U];done)
    | (rw[hy U];rfl)
    | (have e:=hy U;rw[<-e])
    | (have e:=hy U;rw[<-e];rfl)
theorem cm4(h:¬X.c.Z2 s)(h2:¬X.c.snt<X.c.B5 s)(hy:¬X.c.st=0->X.c.why=0)(h3:X.c.B5 s=X.c.una)(h5:¬X.c.st=2)(hx:s.len=0)(hx2:X.c.una<X.c.cur)(hx3:s.win=X.c.wnd):aG2 w g a X s at_:=by
 unfold aG2;obtain⟨e1,e2,e3⟩:=Cn.aE8 h h2 at_;rw[e1,e2,e3,ao];have hd:s.len=0/\X.c.una<X.c.cur/\s.win=X.c.wnd:=⟨hx,hx2,hx3⟩;have h7:¬X.c.una<X.c.B5 s:=by omega
 .refine aJ7 W hz hr hh hs h0 h1 c86 ?_ ⟨?_,?_,?_,?_,?_,?_,?_,?_,?_,?_,?_,?_,?_,?_,?_,?_,?_,?_,?_,?_,?_,?_,?_,?_,?_,?_,?_,?_,?_,?_,?_,?_,?_,?_,?_,?_,?_,?_,?_,?_,?_,?_,?_,?_,?_,?_,?_,?_,trivial⟩
  .simp only[A6,tmA,F8,kdA,aI2,aT0 hz hr hh hs h0 h1,se6,and_true];exact⟨h5,h2,h7,h3,hx,hx2,hx3⟩
  all_goals
   intro hpc;replace hpc:A6 (sgE X s at_) _:=hpc;simp only[A6,tmA,F8,kdA,aI2,aT0 hz hr hh hs h0 h1,se6,se8,and_true]at hpc
   (repeat(obtain⟨_,hpc⟩:=hpc))
   first
    | rw[Cn.bM8 h3 hd U]
    | rw[Cn.bM7 h3 hd U]
   rw[Cn.aj7 h5];first
    | rw[Cn.bv2 bC]
    | rw[Cn.bv1 bC]
   (first|refine X6 (Cn.aN7 bz) ?_|refine X6 (Cn.aN6 bz bz) ?_|refine X6 (Cn.aN8 bz bz bz) ?_|refine X6 (Cn.ak2 bz bz bz) ?_|refine X6 (Cn.ak1 bz bz bz) ?_|refine X6 (Cn.ak0 bz bz bz bz bz) ?_)
   refine⟨fun N=>rfl,?_,fun _=>rfl,A4 _⟩;show({ E6 (sgE X s at_) X.c _ with bg:=_ }:Cn)=_;simp only[E6,svA,z7,kdA,A0];rw[aC1 (b:=true) bE]<;>first
    | rfl
    | (rw[hy U];done)
    | (rw[hy U];rfl)
    | (have e:=hy U;rw[<-e])
    | (have e:=hy U;rw[<-e];rfl)
theorem c77(hy:¬X.c.st=0->X.c.why=0):aG2 w g a X s at_:=by
 by_cases h:X.c.Z2 s
 .exact eE8 W hz hr hh hs h0 h1 h
 by_cases h2:X.c.snt<X.c.B5 s
 .exact eE7 W hz hr hh hs h0 h1 h h2
 by_cases h3:X.c.una<X.c.B5 s
 .exact eE5 W hz hr hh hs h0 h1 h h2 hy h3
 by_cases h4:X.c.B5 s=X.c.una
 .by_cases h5:X.c.st=2
  .by_cases hx:s.len=0
   .by_cases hx2:X.c.una<X.c.cur
    .by_cases hx3:s.win=X.c.wnd
     .exact cm0 W hz hr hh hs h0 h1 h h2 hy h4 h5 hx hx2 hx3
     .exact cm1 W hz hr hh hs h0 h1 h h2 hy h4 h5 hx hx2 hx3
    .exact cm2 W hz hr hh hs h0 h1 h h2 hy h4 h5 hx hx2
   .exact cm3 W hz hr hh hs h0 h1 h h2 hy h4 h5 hx
  .by_cases hx:s.len=0
   .by_cases hx2:X.c.una<X.c.cur
    .by_cases hx3:s.win=X.c.wnd
     .exact cm4 W hz hr hh hs h0 h1 h h2 hy h4 h5 hx hx2 hx3
     .exact cm5 W hz hr hh hs h0 h1 h h2 hy h4 h5 hx hx2 hx3
    .exact cm6 W hz hr hh hs h0 h1 h h2 hy h4 h5 hx hx2
   .exact cm7 W hz hr hh hs h0 h1 h h2 hy h4 h5 hx
 .exact eE6 W hz hr hh hs h0 h1 h h2 hy h3 h4
end
def tkP:Tm:= .tb qax k29 (.tb qax k30 (.tb qax s6 qfj i9) i9) i9
def tkM:Tm:= .ap 50 j5 tkP i9
def tkF:Tm:= .ap 51 j5 tkP i9
def tkV:Tm:= .ap 34 tkM k29 tkF
def tkD:Tm:= .lt i9 qan 
def tkE:Tm:= .lt i9 qda 
abbrev qiz:List (Nat × Tm):=[⟨18,tkD⟩,⟨28,l6⟩,⟨30,tkF⟩]
abbrev qi0:List (Nat × Tm):=[⟨18,l6⟩,⟨28,l6⟩,⟨30,tkF⟩]
abbrev qi1:List (Nat × Tm):=⟨4,(.il 9)⟩::⟨17,qav⟩::qhn
abbrev waW:List (Tq8 Cm):=[.d k18,.l (.ret (.tup []) j8 (qiz) tkM j6),.l (.ret (.tup []) j8 (qi0) tkM j6)]
abbrev wa6:List (Tq8 Cm):=[.l (.ret (.tup []) j8 (qhn) j5 j6)]
theorem dU5:rnC prog f103 pcS [.one (.agg W9), .one (.c (.int .i64 s6))] true (V5 true asB)=some (fq8 ([.b qcw,.b tkV,.d k18,.l (.ret (.tup []) j8 (⟨4,(.il 6)⟩::qiz) tkM j6),.l (.ret (.tup []) j8 (⟨4,(.il 6)⟩::qi0) tkM j6)]++waW++[.b qa3,.b tkV,.d k18,.l (.ret (.tup []) j8 (⟨4,(.il 7)⟩::qiz) tkM j6),.l (.ret (.tup []) j8 (⟨4,(.il 7)⟩::qi0) tkM j6)]++waW++[.b (.eq k4 (.il 5)),.b tkV,.d k18,.l (.ret (.tup []) j8 (⟨4,(.il 9)⟩::⟨17,qav⟩::qiz) tkM j6),.l (.ret (.tup []) j8 (⟨4,(.il 9)⟩::⟨17,qav⟩::qi0) tkM j6)]++waW++[.b qbg,.b (.bv 2),.d k18,.l (.ret (.tup []) j8 (qi1) j5 j6),.l (.ret (.tup []) j8 (qi1) j5 j6),.d k18,.l (.ret (.tup []) j8 (⟨18,tkE⟩::qhd) j5 j6)]++wa6++[.d k18,.l (.ret (.tup []) j8 (⟨18,tkD⟩::qhd) j5 j6)]++wa6) [[]]):=by kernel_rfl
section
variable(X:Cs)(s:Sg)(at_:Int)
theorem eN1(h:X.c.opn):(u9 (sgE X s at_) tkF).i=X.c.aV2 X.L s at_:=by unfold Cn.aV2;rw[if_pos h];rfl
theorem eN0(h:X.c.opn):(u9 (sgE X s at_) tkM).c=X.c.aA4 X.L s at_:=by unfold Cn.aA4;rw[if_pos h];rfl
theorem eM9(h:X.c.opn):(u9 (sgE X s at_) tkV).b=Z3 (X.c.aA4 X.L s at_) X.c.rd (X.c.aV2 X.L s at_):=by
 unfold Cn.aA4 Cn.aV2;rw[if_pos h,if_pos h];rfl
theorem dK5:(u9 (sgE X s at_) tkD).b=decide (0<s.len):=by
 unfold Sg.len;show decide ((0:Int)<(u9 (sgE X s at_) qan).i)=_;rw[z7,z7,A8,aw0,aw0];rfl
theorem dK4(h:¬s.fin=true):(u9 (sgE X s at_) tkE).b=decide (0<s.len):=by
 unfold Sg.len;rw[aQ]at h;rw[h];show decide ((0:Int)<(u9 (sgE X s at_) qda).i)=_;rw[z7,A8,aw0];have e:b2 false=0:=rfl;rw[e,Int.add_zero];rfl
end
theorem dx4{a b:Bool}(h:a=true):(a||b)=true:=by rw[h];rfl
theorem dx5{a b:Bool}(h:¬a=true):(a||b)=b:=by rw[aQ]at h;rw[h];rfl
theorem cF9{s:Sg}(h:s.fin=true):decide (0<s.len)=true:=by
 unfold Sg.len;rw[h];have e:b2 true=1:=rfl;have e2:0<=b2 s.syn:=by unfold b2;split<;>omega
 rw[e];exact aD U
theorem se2(X:Cs)(s:Sg)(at_:Int):(sgE X s at_).b 2=s.fin:=rfl
theorem cB0{w:World}{g:Nat}{a:Pa}{X:Cs}(W:PcW w g a X)(hz:SzX X)(hr:RgX X.c)(hh:X.c.has=true){s:Sg}(hs:SgIn s){at_:Int}(h0: -9223372036854775808<=at_)(h1:at_<=9223372036854775807):
 Calls prog 103 #[.pointer (some ⟨g,0,none⟩),sgV s, .int .i64 at_] w (F7 fun v' w'=>v'= .tuple #[]/\aS4 w w' g (X4 a g true) ⟨X.c.aA5 X.L s at_,X.c.aA4 X.L s at_,X.R⟩):=by
 refine aA0 (is:=[s.fa,s.fp,s.ta,s.tp,s.sq,s.ak,s.win,s.mss,at_]) (bs:=[s.syn,s.hak,s.fin,s.rst]) (ss:=[s.body]) (aR0 (L6 ..)) func103 rfl dU5 W hh (Z1 hh hz hr (b14 hs h0 h1)) ⟨?_,?_,?_,?_,?_,?_,?_,?_,?_,?_,?_,?_,?_,?_,?_,?_,?_,?_,trivial⟩ rfl;all_goals
  intro hpc;replace hpc:A6 (sgE X s at_) _:=hpc;by_cases ho:X.c.opn
  .simp only[A6,tmA,F8,kdA,se2,eM9 X s at_ ho,and_true]at hpc
   (repeat(obtain⟨_,hpc⟩:=hpc))
   have ho':=ho;unfold Cn.opn at ho';first
   | (exfalso;omega)
   | (refine⟨fun N=>rfl,?_,fun _=>eN0 X s at_ ho,A4 _⟩
      show({ E6 (sgE X s at_) X.c _ with bg:=_ }:Cn)=X.c.aA5 X.L s at_;simp only[E6,svA,kdA,A0,z7,eN1 X s at_ ho,dK5];rw[aC1 (b:=true) bE];unfold Cn.aA5;rw[if_pos ho];first
      | (rw[if_pos bC];unfold Cn.bl8
         first
         | rw[if_pos bC]
         | (rw[if_neg (by show ¬X.c.st=3;omega),if_pos bC])
         | (rw[if_neg (by show ¬X.c.st=3;omega),if_neg (by show ¬X.c.st=4;omega)]))
      | rw[if_neg bC]
      first
      | rw[dx4 bC]
      | rw[dx5 bC]
      all_goals rfl)
  .simp only[A6,tmA,F8,kdA,se2,and_true]at hpc
   (repeat(obtain⟨_,hpc⟩:=hpc))
   have ho':=ho;unfold Cn.opn at ho';first
   | (exfalso;omega)
   | (refine⟨fun N=>rfl,?_,fun _=>by unfold Cn.aA4;rw[if_neg ho];rfl,A4 _⟩
      show({ E6 (sgE X s at_) X.c _ with bg:=_ }:Cn)=X.c.aA5 X.L s at_;simp only[E6,svA,kdA,A0,z7,dK5];rw[aC1 (b:=true) bE];unfold Cn.aA5;rw[if_neg ho];first
      | rw[if_pos ⟨by assumption,by assumption⟩]
      | rw[if_neg (fun q=>by first|contradiction|exact absurd q.1 bC|exact absurd q.2 bC)]
      first
      | rw[dx4 bC]
      | rw[dx5 bC]
      all_goals first
      | rfl
      | (rw[<-dK4 X s at_ bC];done)
      | (rw[<-dK4 X s at_ bC];rfl)
      | (have e9:X.c.st=9:=by assumption
         rw[e9];done)
      | (have e9:X.c.st=9:=by assumption
         rw[e9];rfl)
      | (have e9:X.c.st=9:=by assumption
         rw[e9,cF9 bC];done)
      | (have e9:X.c.st=9:=by assumption
         rw[e9,cF9 bC];rfl)
      | (rw[fin_len bC];done)
      | (rw[fin_len bC];rfl))
theorem eM8{c:Cn}(h:RgX c):RgX c.up:=by
 unfold Cn.up;split
 .split
  .exact{ h with r4:=(by decide:(0:Int)<=4/\(4:Int)<=9) }
  .exact{ h with r4:=(by decide:(0:Int)<=3/\(3:Int)<=9) }
 .exact h
theorem be7(c:Cn):c.up.ou=c.ou/\c.up.has=c.has/\c.up.same=c.same/\c.up.all=c.all:=by
 unfold Cn.up;split<;>exact⟨rfl,rfl,rfl,rfl⟩
theorem eB5{c:Cn}(h:RgX c)(hh:c.has=true)(h16:c.same<=1152921504606846975):RgX c.dup:=by
 have e16:0<=c.same+1/\c.same+1<=1152921504606846976:=by have:=h.r16;omega
 obtain⟨w1,w2,w3⟩:=h.h hh;have hs:=bO4 c.cm (c.cur - c.una) w1.1 w1.2;unfold Cn.dup;split
 .exact{ h with r16:=e16,r21:=z60,h:=fun _=>⟨w1,⟨by show 8<=aC3 _ _;omega,hs.2⟩,⟨by show 0<=aC3 _ _;omega,hs.2⟩⟩ }
 .exact{ h with r16:=e16 }
theorem dk7{c:Cn}(h:RgX c){s:Sg}(hs:SgIn s){a at_ u:Int}(ha: -2305843009213693952<=a/\a<=2305843009213693952)(ht: -2305843009213693952<=at_/\at_<=2305843009213693952):RgX (c.ag6 s a at_ u):=by
 unfold Cn.ag6;split
 .exact{ h with r10:=hs.h6,r11:=ht,r12:=ha }
 .exact h
theorem bY5{c:Cn}(h:RgX c):0<=c.now+20/\c.now+20<=2199023255552:=by have:=h.r13;omega
theorem dk6{c:Cn}(h:RgX c):RgX c.aJ0:=by
 unfold Cn.aJ0;split
 .split
  .exact{ h with r4:=(by decide:(0:Int)<=5/\(5:Int)<=9) }
  .split
   .exact{ h with r4:=(by decide:(0:Int)<=9/\(9:Int)<=9),r17:=bY5 h }
   .split
    .exact{ h with r4:=(by decide:(0:Int)<=0/\(0:Int)<=9) }
    .exact h
 .exact h
theorem c79(c:Cn)(s:Sg): -2305843009213693952<=c.B5 s/\c.B5 s<=2305843009213693952:=by
 have:=bg7 ((s.ak - c.iss) % 4294967296) c.una;unfold Cn.B5;omega
theorem bi4{c:Cn}(h:RgX c)(hh:c.has=true){s:Sg}(hs:SgIn s)(h16:c.same<=1152921504606846975){at_:Int}(ht: -2305843009213693952<=at_/\at_<=2305843009213693952):RgX (c.Z4 s at_):=by
 obtain⟨u1,u2,u3,u4⟩:=be7 c;have hu:=eM8 h;unfold Cn.Z4;split
 .exact h
 .split
  .exact{ hu with }
  .refine dk6 (dk7 ?_ hs (c79 c s) ht);unfold Cn.ag7;split
   .exact a92 hu (u2.trans hh) _
   .split
    .exact eB5 hu (u2.trans hh) (by rw[u3];exact h16)
    .exact hu
theorem bn7(c:Cn):c.aJ0.all=c.all/\c.aJ0.has=c.has:=by
 unfold Cn.aJ0
 (repeat' split)<;>exact⟨rfl,rfl⟩
theorem bn8(c:Cn)(s:Sg)(a b d:Int):(c.ag6 s a b d).all=c.all/\(c.ag6 s a b d).has=c.has:=by
 unfold Cn.ag6
 (repeat' split)<;>exact⟨rfl,rfl⟩
theorem bz8(c:Cn):c.dup.all=c.all/\c.dup.has=c.has:=by
 unfold Cn.dup
 (repeat' split)<;>exact⟨rfl,rfl⟩
theorem aO0(c:Cn)(s:Sg)(at_:Int):(c.Z4 s at_).all=c.all/\(c.Z4 s at_).has=c.has:=by
 obtain⟨u1,u2,u3,u4⟩:=be7 c;unfold Cn.Z4;split
 .exact⟨rfl,rfl⟩
 .split
  .exact⟨u4,u2⟩
  .unfold Cn.aW9;rw[(bn7 _).1,(bn7 _).2,(bn8 _ _ _ _ _).1,(bn8 _ _ _ _ _).2];unfold Cn.ag7;split
   .exact⟨(aR1 _ _).1.trans u4,(aR1 _ _).2.trans u2⟩
   .split
    .exact⟨(bz8 _).1.trans u4,(bz8 _).2.trans u2⟩
    .exact⟨u4,u2⟩
theorem bO3{c:Cn}(h:RgX c)(L:Rws)(s:Sg)(at_:Int):RgX (c.aA5 L s at_):=by
 unfold Cn.aA5;split
 .split
  .unfold Cn.bl8;split
   .exact{ h with r4:=(by decide:(0:Int)<=6/\(6:Int)<=9) }
   .split
    .exact{ h with r4:=(by decide:(0:Int)<=7/\(7:Int)<=9) }
    .have e20:=bY5 h;exact{ h with r4:=(by decide:(0:Int)<=9/\(9:Int)<=9),r17:=e20 }
  .exact{ h with }
 .split
  .exact{ h with r17:=bY5 h }
  .exact{ h with }
theorem ao4(c:Cn)(L:Rws)(s:Sg)(at_:Int):(c.aA5 L s at_).all=c.all/\(c.aA5 L s at_).has=c.has:=by
 unfold Cn.aA5 Cn.bl8
 (repeat' split)<;>exact⟨rfl,rfl⟩
def bf2(c:Cx):List SV->Option (List Tm × Tm × Tm)
 | [.one (.agg cs), .one (.c (.int .i64 t))]=>(aV6 (zI t qao) cs).map fun z=>(cv0 c cs++inN c t (-2305843009213693952) 2305843009213693952, .il 0,z)
 | _=>none
def acG:Gp where
 f:=102
 args:=bf2
 need:=fun c h ts R _ _=>av1 c ts R++(a06 c h ts++((if h then []else [.bl false])++(F9 c (.eq (tj ts 5) i9)++F9 c (.le (tj ts 16) (.il 1152921504606846975)))))
 has':=fun h=>h
 row:=fun Y _ _ z=> .ap 123 Y i9 z
 L:=fun _ L _ _=>L
 R:=fun Y _ R _ z=> .tb .app R (.ap 125 Y i9 z) i9
 ans:=fun Y _ _ z=> .one (.c (.bool (.ap 124 Y i9 z)))
 bs:=fun _ h Y _ _ z=>⟨L7 (.ap 125 Y i9 z),0,1⟩::bdY h (.ap 123 Y i9 z)
def taG:Gp where
 f:=103
 args:=bf2
 need:=fun c h ts R _ _=>av1 c ts R++(a06 c h ts++(if h then []else [.bl false]))
 has':=fun h=>h
 row:=fun Y L _ z=> .ap 126 Y L z
 L:=fun Y L _ z=> .ap 127 Y L z
 R:=fun _ _ R _ _=>R
 ans:=fun _ _ _ _=> .tup []
 bs:=fun _ h Y L _ z=>bdY h (.ap 126 Y L z)
theorem bV3{t:Int}(h: -2305843009213693952<=t/\t<=2305843009213693952): -9223372036854775808<=t/\t<=9223372036854775807:=by omega
theorem bE9{J:Env}{b:Bool}(h:Sy.Met J (if b then []else [.bl false])):b=true:=by
 cases b with
 | true=>rfl
 | false=>exact nomatch (show false=true from h _ (ae ..))
section
variable{J:Env}(E:CnEnv J)
include E
theorem eF0:(af6 acG).Ok prog J:=by
 refine a33 E fun{cx xs m y z has ts Y L R X} hc ha hm hn e hY hh hL hR {w g a} W N=>?_
 change bf2 cx xs=some (m,y,z)at ha;unfold bf2 at ha;split at ha
 .rename_i cs t;cases hg:aV6 (zI t qao) cs with
  | none=>rw[hg]at ha;cases ha
  | some z'=>
    rw[hg]at ha;injection ha with ha;injection ha with h1 ha;injection ha with h2 h3;subst h1 h2 h3;obtain⟨g1,g2,g3⟩:=af0 (J:=J) hg;have hs:=g2 cx hc hm.l;have ht:=aO6 hc hm.r;have hz:=aX9 hc hn.l e hR;have hr:=ab0 hc hn.r.l e hh;have hb':=bE9 hn.r.r.l;subst hb';have hw:=z0 hc hn.r.r.r.l;rw[A9]at hw;have h16:=B2 (z0 hc hn.r.r.r.r);have ew:(u9 J (tj ts 5)).i=X.c.why:=by rw[<-e];rfl
    have e16:(u9 J (tj ts 16)).i=X.c.same:=by rw[<-e];rfl
    rw[ew]at hw;rw[e16]at h16;have hw:X.c.why=0:=hw;have h16:X.c.same<=1152921504606846975:=h16;have hat:=g3 t qao rfl;generalize hG:W5 (hd (u9 J z'))=G at g1 hs;have hrow:hd (u9 J (.ap 123 Y i9 z'))=K9 (X.c.Z4 G (u9 J t).i):=by
     rw[F3 E.f];show K9 ((R7 (hd (u9 J Y))).Z4 (W5 (hd (u9 J z'))) (z9 (hd (u9 J z')) 13))=_;rw[hY,U7,hG,hat]
    have ea:=aO0 X.c G (u9 J t).i;have eA:(SV.one (.c (.bool (.ap 124 Y i9 z')))).A1 J N= .bool (X.c.aE9 G (u9 J t).i):=by
     show Value.bool (u9 J (.ap 124 Y i9 z')).b=_;rw[F3 E.f];show Value.bool ((R7 (hd (u9 J Y))).aE9 (W5 (hd (u9 J z'))) (z9 (hd (u9 J z')) 13))=_;rw[hY,U7,hG,hat]
    have eR:(u9 J (.tb .app R (.ap 125 Y i9 z') i9)).c=Y3 (X.R++X.c.aC5 G):=by
     show(u9 J R).c++(u9 J (.ap 125 Y i9 z')).c=_;rw[F3 E.f,hR];show Y3 X.R++Y3 ((R7 (hd (u9 J Y))).aC5 (W5 (hd (u9 J z'))))=_;rw[hY,U7,hG];unfold Y3;rw[bb]
    have el:0<=(u9 J (L7 (.ap 125 Y i9 z'))).i/\(u9 J (L7 (.ap 125 Y i9 z'))).i<=1:=by
     show(0:Int)<=(((u9 J (.ap 125 Y i9 z')).c.length:Nat):Int)/\(((u9 J (.ap 125 Y i9 z')).c.length:Nat):Int)<=1;rw[F3 E.f];show(0:Int)<=(((Y3 ((R7 (hd (u9 J Y))).aC5 (W5 (hd (u9 J z'))))).length:Nat):Int)/\(((Y3 ((R7 (hd (u9 J Y))).aC5 (W5 (hd (u9 J z'))))).length:Nat):Int)<=1;rw[aT8];unfold Cn.aC5;split
     .exact⟨by show(0:Int)<=1;decide,by show(1:Int)<=1;decide⟩
     .exact⟨by show(0:Int)<=0;decide,by show(0:Int)<=1;decide⟩
    refine⟨fun x hx=>(aa.1 hx).elim (fun e=>by rw[e];exact el) fun hx=>ai5 (X:=⟨X.c.Z4 G (u9 J t).i,X.L,X.R⟩) E.f hrow (ea.2.trans hh) (bi4 hr hh hs h16 ht) ce x hx,fun _=>rfl,⟨X.c.Z4 G (u9 J t).i,X.L,X.R++X.c.aC5 G⟩,hrow,ea.2.trans hh,fun _=>hL,eR,?_⟩;have hA:=c77 W hz hr hh hs (bV3 ht).1 (bV3 ht).2 (fun _=>hw);unfold aG2 at hA;show Calls prog _ _ w (F7 fun v w'=>v=(SV.one (.c (.bool (.ap 124 Y i9 z')))).A1 J N/\_);rw[eA];have ev:([SV.one (.agg cs),SV.one (.c (.int .i64 t))].map (SV.A1 J N)).toArray=#[sgV G, .int .i64 (u9 J t).i]:=by
     show #[V1.W7 J N (.agg cs),_]=_;rw[g1];rfl
    rw[ev];exact hA
 .cases ha
theorem ds9:(af6 taG).Ok prog J:=by
 refine a33 E fun{cx xs m y z has ts Y L R X} hc ha hm hn e hY hh hL hR {w g a} W N=>?_
 change bf2 cx xs=some (m,y,z)at ha;unfold bf2 at ha;split at ha
 .rename_i cs t;cases hg:aV6 (zI t qao) cs with
  | none=>rw[hg]at ha;cases ha
  | some z'=>
    rw[hg]at ha;injection ha with ha;injection ha with h1 ha;injection ha with h2 h3;subst h1 h2 h3;obtain⟨g1,g2,g3⟩:=af0 (J:=J) hg;have hs:=g2 cx hc hm.l;have ht:=aO6 hc hm.r;have hz:=aX9 hc hn.l e hR;have hr:=ab0 hc hn.r.l e hh;have hb':=bE9 hn.r.r;subst hb';have hat:=g3 t qao rfl;generalize hG:W5 (hd (u9 J z'))=G at g1 hs;have hrow:hd (u9 J (.ap 126 Y L z'))=K9 (X.c.aA5 X.L G (u9 J t).i):=by
     rw[F3 E.f];show K9 ((R7 (hd (u9 J Y))).aA5 (u9 J L).c (W5 (hd (u9 J z'))) (z9 (hd (u9 J z')) 13))=_;rw[hY,U7,hG,hat,hL]
    have hL':(u9 J (.ap 127 Y L z')).c=X.c.aA4 X.L G (u9 J t).i:=by
     rw[F3 E.f];show(R7 (hd (u9 J Y))).aA4 (u9 J L).c (W5 (hd (u9 J z'))) (z9 (hd (u9 J z')) 13)=_;rw[hY,U7,hG,hat,hL]
    have ea:=ao4 X.c X.L G (u9 J t).i;refine⟨ai5 (X:=⟨X.c.aA5 X.L G (u9 J t).i,X.L,X.R⟩) E.f hrow (ea.2.trans hh) (bO3 hr _ _ _) bZ,fun _=>rfl,⟨X.c.aA5 X.L G (u9 J t).i,X.c.aA4 X.L G (u9 J t).i,X.R⟩,hrow,ea.2.trans hh,fun _=>hL',hR,?_⟩;have hA:=cB0 W hz hr hh hs (bV3 ht).1 (bV3 ht).2;have ev:([SV.one (.agg cs),SV.one (.c (.int .i64 t))].map (SV.A1 J N)).toArray=#[sgV G, .int .i64 (u9 J t).i]:=by
     show #[V1.W7 J N (.agg cs),_]=_;rw[g1];rfl
    rw[ev];exact hA
 .cases ha
end
abbrev sgF(X:Cs)(s:Sg):Env:=H8 X [s.fa,s.fp,s.ta,s.tp,s.sq,s.ak,s.win,s.mss] [s.syn,s.hak,s.fin,s.rst] [s.body]
section
variable(X:Cs)(s:Sg)
theorem I8:(sgF X s).f=cnF:=rfl
theorem sf0:(sgF X s).i 0=s.fa:=rfl
theorem sf1:(sgF X s).i 1=s.fp:=rfl
theorem sf2:(sgF X s).i 2=s.ta:=rfl
theorem sf3:(sgF X s).i 3=s.tp:=rfl
theorem sf4:(sgF X s).i 4=s.sq:=rfl
theorem sf5:(sgF X s).i 5=s.ak:=rfl
theorem sf6:(sgF X s).i 6=s.win:=rfl
theorem sg0:(sgF X s).b 0=s.syn:=rfl
theorem sg1:(sgF X s).b 1=s.hak:=rfl
theorem sg2:(sgF X s).b 2=s.fin:=rfl
theorem sg3:(sgF X s).b 3=s.rst:=rfl
end
theorem W0{α:Type}{P:α->Prop}{x:α}{l:List α}(h1:P x)(h2:aC6 P l):aC6 P (x::l):=⟨h1,h2⟩
theorem V9{α:Type}{P:α->Prop}:aC6 P []:=trivial
theorem bW2{X:Cs}{s:Sg}(hs:SgIn s):X5 (sgF X s) sgB:=by
 have hs8:(0:Int)<=(s.body.size:Int)/\(s.body.size:Int)<=1000:=by have:=hs.h8;omega
 exact Z6 ⟨hs.h0,hs.h1,hs.h2,hs.h3,hs.h4,hs.h5,hs.h6,hs.h7,hs8,trivial⟩
def kNx:Tm:= .ap 33 j5 k29 k30
def w9:Tm:= .ap 100 (.md (.sub n8 k7) qca) kNx i9
def sgI(c:Cx):List C->List Tm
 | [.int .u32 a0, .int .i64 a1, .int .u32 a2, .int .i64 a3, .int .u32 a4, .int .u32 a5, .bool b0, .bool b1, .bool b2, .bool b3, .int .i64 a6, .int .i64 a7, .str s0]=>
   inN c a0 0 4294967295++(aU6 c a1++(inN c a2 0 4294967295++(aU6 c a3++(inN c a4 0 4294967295++(inN c a5 0 4294967295++(aU6 c a6++(aU6 c a7++F9 c (.le (Q6 c s0) qb2))))))))
 | _=>[]
structure SgAny(s:Sg):Prop where
 h0:0<=s.fa/\s.fa<=4294967295
 h1: -9223372036854775808<=s.fp/\s.fp<=9223372036854775807
 h2:0<=s.ta/\s.ta<=4294967295
 h3: -9223372036854775808<=s.tp/\s.tp<=9223372036854775807
 h4:0<=s.sq/\s.sq<=4294967295
 h5:0<=s.ak/\s.ak<=4294967295
 h6: -9223372036854775808<=s.win/\s.win<=9223372036854775807
 h7: -9223372036854775808<=s.mss/\s.mss<=9223372036854775807
 h8:s.body.size<=9223372036854775807
theorem cb5{J:Env}{tl:Tm}{cs:List C}{z:Tm}(h:aV6 tl cs=some z)(c:Cx)(hc:c.ok J)(hm:Sy.Met J (sgI c cs)):SgAny (W5 (hd (u9 J z))):=by
 unfold aV6 at h;split at h
 .injection h with h;subst h;have h8:=B2 (z0 hc hm.r.r.r.r.r.r.r.r);rw[Q8 hc]at h8;refine⟨aO6 hc hm.l,aE4 hc hm.r.l,aO6 hc hm.r.r.l,aE4 hc hm.r.r.r.l,aO6 hc hm.r.r.r.r.l,aO6 hc hm.r.r.r.r.r.l,aE4 hc hm.r.r.r.r.r.r.l,aE4 hc hm.r.r.r.r.r.r.r.l,?_⟩;have k:(u9 J qb2).i=9223372036854775807:=rfl;show(u9 J _).s.size<=9223372036854775807;omega
 .cases h
def b09(f:FuncId):Sy.Spec:=aa1 f (fun c xs=>match xs with
    | [.one (.agg cs)]=>(aV6 qao cs).map fun _=>sgI c cs
    | _=>none) (fun _ xs=>match xs with
    | [.one (.agg cs)]=>(aV6 qao cs).map fun z=>(sI1 (.ap 103 z i9 i9),[⟨.ap 103 z i9 i9,0,4⟩])
    | _=>none)
theorem eB3(s:Sg):0<=Cn.err s/\Cn.err s<=4:=by
 unfold Cn.err ao3
 (repeat' split)<;>decide
theorem chkSp'_ok{J:Env}(E:CnEnv J){f:FuncId}(H:∀(s:Sg) (w:World),SgAny s->Calls prog f #[sgV s] w fun e w'=>e= .returned (.int .i64 (Cn.err s))/\Below w.heap.size w w'):(b09 f).Ok prog J:=by
 refine aY3 fun c xs m v bs hc hpre hres hm=>?_
 split at hpre
 .rename_i cs;cases hg:aV6 qao cs with
  | none=>rw[hg]at hpre;cases hpre
  | some z=>
    simp only[hg]at hpre hres;injection hpre with hpre;subst hpre;injection hres with hres;injection hres with h1 h2;subst h1 h2;have ei:(u9 J (.ap 103 z i9 i9)).i=Cn.err (W5 (hd (u9 J z))):=by rw[F3 E.f];rfl
    obtain⟨g1,_,_⟩:=af0 (J:=J) hg;have hA:=cb5 hg c hc hm;refine⟨fun x hx=>?_,fun N w=>?_⟩
    .rw[ah.1 hx];show 0<=(u9 J (.ap 103 z i9 i9)).i/\_<=_;rw[ei];exact eB3 _
    .have ev:([SV.one (.agg cs)].map (SV.A1 J N)).toArray=#[sgV (W5 (hd (u9 J z)))]:=by
      show #[V1.W7 J N (.agg cs)]=_;rw[g1]
     rw[ev];refine(H _ w hA).mono ?_;rintro e w' ⟨rfl,h⟩;exact⟨congrArg Ending.returned (aD3 ei.symm),h⟩
 .cases hpre
theorem SgAny.seg{s:Sg}(h:SgAny s):SegIn s.fa s.fp s.ta s.tp s.sq s.ak s.win s.mss s.body:=⟨h.h0.1,h.h0.2,h.h1.1,h.h1.2,h.h2.1,h.h2.2,h.h3.1,h.h3.2,h.h4.1,h.h4.2,h.h5.1,h.h5.2,h.h6.1,h.h6.2,h.h7.1,h.h7.2,h.h8⟩
def cQ7:Sy.Spec:=b09 51
def bx5:Sy.Spec:=b09 53
theorem b08{J:Env}(E:CnEnv J):cQ7.Ok prog J:=chkSp'_ok E fun s w h=>bq8 h.seg s.syn s.hak s.fin s.rst w _ rfl
theorem bm8{J:Env}(E:CnEnv J):bx5.Ok prog J:=chkSp'_ok E fun s w h=>bP1 h.seg s.syn s.hak s.fin s.rst w _ rfl
theorem cP4{s:Sg}(h:SgAny s)(h0:Cn.err s=0):SgIn s:=by
 unfold Cn.err ao3 at h0;split at h0
 .cases h0
 .rename_i q;split at h0
  .cases h0
  .split at h0
   .cases h0
   .refine⟨h.h0,h.h1,h.h2,h.h3,h.h4,h.h5,?_,?_,?_⟩<;>omega
theorem cP7{w:World}{g:Nat}{a:Da}{X:Cs}(W:DcW w g a X)(hz:SzX X)(hr:RgX X.c)(hh:X.c.has=false)(s:Sg)(hs:SgIn s):
 Calls prog 56 #[.pointer (some ⟨g,0,none⟩),sgV s] w (F7 fun v w'=>v= .tuple #[]/\aS6 w w' g (Y8 a g false) ⟨X.c.syn s,[],X.R⟩):=by
 have m0:=hr.r8;have m7:=hs.h7;have hs8:(0:Int)<=(s.body.size:Int)/\(s.body.size:Int)<=1000:=by have:=hs.h8;omega
 have i7:(H8 X [s.fa,s.fp,s.ta,s.tp,s.sq,s.ak,s.win,s.mss] [s.syn,s.hak,s.fin,s.rst] [s.body]).i 7=s.mss:=rfl;have e0:(u9 (H8 X [s.fa,s.fp,s.ta,s.tp,s.sq,s.ak,s.win,s.mss] [s.syn,s.hak,s.fin,s.rst] [s.body]) bz9).i=max 8 (min X.c.own 536):=by
  unfold bz9;simp only[aD5,A7,A0,kdA]
  (repeat' split)<;>omega
 have e1:(u9 (H8 X [s.fa,s.fp,s.ta,s.tp,s.sq,s.ak,s.win,s.mss] [s.syn,s.hak,s.fin,s.rst] [s.body]) a09).i=max 8 (min X.c.own s.mss):=by
  unfold a09;simp only[aD5,A7,A0,F0,i7,kdA]
  (repeat' split)<;>omega
 refine Y2 (is:=[s.fa,s.fp,s.ta,s.tp,s.sq,s.ak,s.win,s.mss]) (bs:=[s.syn,s.hak,s.fin,s.rst]) (ss:=[s.body]) (fun q hq=>by
  rcases aa.1 hq with rfl|hq
  .exact bN1 rfl
  rw[ah.1 hq];exact bN3) func56 rfl dg2 W hh (Z1 hh hz hr (Z6 ⟨hs.h0,hs.h1,hs.h2,hs.h3,hs.h4,hs.h5,hs.h6,hs.h7,hs8,trivial⟩)) ⟨?_,?_,?_,?_,trivial⟩ rfl
 all_goals intro hpc
 all_goals replace hpc:A6 (H8 X [s.fa,s.fp,s.ta,s.tp,s.sq,s.ak,s.win,s.mss] [s.syn,s.hak,s.fin,s.rst] [s.body]) _:=hpc
 all_goals simp only[A6,A9,y9,E5,F0,A0,i7,e0,e1,and_true]at hpc
 .refine T9 (fun N=>rfl) ?_ (fun _=>rfl) (A4 _);have em:X.c.aS7 s=max 8 (min X.c.own 536):=by unfold Cn.aS7;rw[if_pos hpc]
  show E6 _ X.c _=X.c.syn s;unfold Cn.syn;rw[em];simp only[E6,svA,bI3,bL9,A0,e0];rfl
 .show(u9 _ _).b=true;simp only[E5,A0,e1];omega
 .show(u9 _ _).b=true;simp only[E5,A0,e1];omega
 .refine T9 (fun N=>rfl) ?_ (fun _=>rfl) (A4 _);have em:X.c.aS7 s=max 8 (min X.c.own s.mss):=by unfold Cn.aS7;rw[if_neg hpc.2.2]
  show E6 _ X.c _=X.c.syn s;unfold Cn.syn;rw[em];simp only[E6,svA,bI3,bL9,A0,e1];rfl
theorem cE9{c:Cn}(h:RgX c):RgX c.F6:=by
 have h1:=h.r13;have q1: -1<=c.now/\c.now<=1099511627776:=by omega
 unfold Cn.F6;split
 .split
  .exact{ h with r14:=q1 }
  .exact h
 .exact{ h with r14:=zm1 }
def dlG:Gp where
 f:=50
 args:=noA
 need:=fun c h ts R _ _=>av1 c ts R++a06 c h ts
 has':=fun h=>h
 row:=fun Y _ _ _=> .ap 120 Y i9 i9
 L:=fun _ L _ _=>L
 R:=fun _ _ R _ _=>R
 ans:=fun _ _ _ _=> .tup []
 bs:=fun _ h Y _ _ _=>bdY h (.ap 120 Y i9 i9)
def daG:Gp where
 f:=104
 args:=bh5
 need:=fun c h ts R _ _=>av1 c ts R++(a06 c h ts++(if h then []else [.bl false]))
 has':=fun h=>h
 row:=fun Y _ y _=> .ap 122 Y y i9
 L:=fun _ L _ _=>L
 R:=fun _ _ R _ _=>R
 ans:=fun _ _ _ _=> .tup []
 bs:=fun _ h Y _ y _=>bdY h (.ap 122 Y y i9)
def dsG:Gp where
 f:=56
 args:=sgA
 need:=fun c h ts R _ _=>av1 c ts R++(a06 c h ts++(if h then [.bl false]else []))
 has':=fun _=>true
 row:=fun Y _ _ z=> .ap 121 Y i9 z
 L:=fun _ _ _ _=>tn
 R:=fun _ _ R _ _=>R
 ans:=fun _ _ _ _=> .tup []
 bs:=fun _ h Y _ _ z=>bdY true (.ap 121 Y i9 z)
section
variable{J:Env}(E:CnEnv J)
include E
theorem b01:(af7 dlG).Ok prog J:=by
 refine a34 E fun{cx xs m y z has ts Y L R X} hc ha hm hn e hY hh hL hR {w g a} W N=>?_
 change noA cx xs=some (m,y,z)at ha;unfold noA at ha;split at ha
 .injection ha with ha;injection ha with h1 ha;injection ha with h2 h3;subst h1 h2 h3;have hz:=aX9 hc hn.l e hR;have hr:=ab0 hc hn.r e hh;have el:=aG8 X.c;have hrow:hd (u9 J (.ap 120 Y i9 i9))=K9 X.c.F6:=by
   rw[F3 E.f];show K9 (R7 (hd (u9 J Y))).F6=_;rw[hY,U7]
  refine⟨ai5 (X:=⟨X.c.F6,X.L,X.R⟩) E.f hrow (el.2.trans hh) (cE9 hr) (by show X.c.F6.all.size<=_;rw[el.1];exact hz.a),fun _=>rfl,⟨X.c.F6,X.L,X.R⟩,hrow,el.2.trans hh,fun _=>hL,hR,?_⟩;have:=cB8 W hz hr;rw[hh]at this;exact this
 .cases ha
theorem ck4:(af7 daG).Ok prog J:=by
 refine a34 E fun{cx xs m y z has ts Y L R X} hc ha hm hn e hY hh hL hR {w g a} W N=>?_
 change bh5 cx xs=some (m,y,z)at ha;unfold bh5 at ha;split at ha
 .rename_i t;injection ha with ha;injection ha with h1 ha;injection ha with h2 h3;subst h1 h2 h3;have ht:=aE4 hc hm;have hz:=aX9 hc hn.l e hR;have hr:=ab0 hc hn.r.l e hh;have hs:=bE9 hn.r.r;subst hs;have hrow:hd (u9 J (.ap 122 Y t i9))=K9 (X.c.V7 (u9 J t).i):=by
   rw[F3 E.f];show K9 ((R7 (hd (u9 J Y))).V7 (u9 J t).i)=_;rw[hY,U7]
  have ea:=aR1 X.c (u9 J t).i;refine⟨ai5 (X:=⟨X.c.V7 (u9 J t).i,X.L,X.R⟩) E.f hrow (ea.2.trans hh) (a92 hr hh _) (by show(X.c.V7 _).all.size<=_;rw[ea.1];exact hz.a),fun _=>rfl,⟨X.c.V7 (u9 J t).i,X.L,X.R⟩,hrow,ea.2.trans hh,fun _=>hL,hR,?_⟩;exact b04 W hz hr hh ht.1 ht.2
 .cases ha
theorem eB6:(af7 dsG).Ok prog J:=by
 refine a34 E fun{cx xs m y z has ts Y L R X} hc ha hm hn e hY hh hL hR {w g a} W N=>?_
 change sgA cx xs=some (m,y,z)at ha;unfold sgA at ha;split at ha
 .rename_i cs;cases hg:aV6 qao cs with
  | none=>rw[hg]at ha;cases ha
  | some z'=>
    rw[hg]at ha;injection ha with ha;injection ha with h1 ha;injection ha with h2 h3;subst h1 h2 h3;obtain⟨g1,g2,_⟩:=af0 (J:=J) hg;have hs:=g2 cx hc hm;have hz:=aX9 hc hn.l e hR;have hr:=ab0 hc hn.r.l e hh;have hb':has=false:=by
     cases has with
     | false=>rfl
     | true=>exact nomatch (show false=true from hn.r.r _ (ae ..))
    subst hb';generalize hG:W5 (hd (u9 J z'))=G at g1 hs;have hrow:hd (u9 J (.ap 121 Y i9 z'))=K9 (X.c.syn G):=by
     rw[F3 E.f];show K9 ((R7 (hd (u9 J Y))).syn (W5 (hd (u9 J z'))))=_;rw[hY,U7,hG]
    refine⟨ai5 (X:=⟨X.c.syn G,[],X.R⟩) E.f hrow rfl (bV8 hr hs) hz.a,fun _=>rfl,⟨X.c.syn G,[],X.R⟩,hrow,rfl,fun _=>rfl,hR,?_⟩;have:=cP7 W hz hr hh G hs;have ev:([SV.one (.agg cs)].map (SV.A1 J N)).toArray=#[sgV G]:=by
     show #[V1.W7 J N (.agg cs)]=_;rw[g1]
    rw[ev];exact this
 .cases ha
end
end Go.Proofs.YtnlcpcmdlcakgaaGreat
