/- A part of the proof that a connection answers as the document says: Ce1 Ce2 Cg6. -/
import Derived.Test.YtnlcpcmdlcakgaaGreatKh37
import Derived.Test.YtnlcpcmdlcakgaaGreatKh44
set_option maxRecDepth 100000
set_option maxHeartbeats 4000000
set_option linter.unusedVariables false
set_option linter.unusedSimpArgs false
set_option linter.unusedSectionVars false
open Go.Proofs.Tryz
namespace Go.Proofs.YtnlcpcmdlcakgaaGreat
open Go.RowKit Sy
def a08:Tm:= .ap 133 kCv j5 U2
abbrev qci:Tm:= .ap 92 o6 a08 l6
def cO8:Tm:= .ap 134 kCv j5 U2
def dnS:List Sy.Spec:=bx5::af7 dlG::af7 dsG::af7 daG::af7 anG::af7 brG::dcS
theorem dZ2:rnD prog f24 dnS [.one (.agg W9)] false (cP3 false)=some [(.ret qe7 j8 (qhb) j5 j6 [(.not qcg)])]:=by kernel_rfl
theorem dZ1:rnD prog f24 dnS [.one (.agg W9)] true (cP3 true)=some [(.ret qe7 j8 (qhd) j5 j6 [(.not qcg)])]:=by kernel_rfl
theorem da5:rnD prog f24 dnS [.one (.agg W9)] false (aZ5 false [.not U6])=some [(.ret qcj j8 (qhb) j5 j6 [qcg,(.not U6)])]:=by kernel_rfl
theorem da4:rnD prog f24 dnS [.one (.agg W9)] true (aZ5 true [.not U6])=some [(.ret qcj j8 (qhd) j5 j6 [qcg,(.not U6)])]:=by kernel_rfl
theorem da3:rnD prog f24 dnS [.one (.agg W9)] false (aZ5 false [U6, .not W6])=some [(.ret qcj j8 (qhb) j5 j6 [qcg,U6,(.not W6)])]:=by kernel_rfl
theorem da2:rnD prog f24 dnS [.one (.agg W9)] true (aZ5 true [U6, .not W6])=some [(.ret qcj j8 (qhd) j5 j6 [qcg,U6,(.not W6)])]:=by kernel_rfl
theorem dY8:rnD prog f24 dnS [.one (.agg W9)] false (aZ5 false [U6,W6, .eq k4 i9])=some [(.ret qbu j8 (qhb) j5 j6 [qcg,U6,W6,qaw])]:=by kernel_rfl
theorem dY7:rnD prog f24 dnS [.one (.agg W9)] true (aZ5 true [U6,W6, .eq k4 i9])=some [(.ret qbu j8 (qhd) j5 j6 [qcg,U6,W6,qaw])]:=by kernel_rfl
theorem dZ0:rnD prog f24 dnS [.one (.agg W9)] false (aZ5 false [U6,W6, .not qaw, .eq k4 l9])=some (fq8 ([.b (.bv 1),.b qg3,.d (.lt i9 y5)]++waE++[.l (.ret qad qes (qhb) j5 j6),.d o9]++waY++[.l (.ret qad qc1 (qhd) qbx j6)]++waE++waY++[.d o9]++waY++[.p,.l (.must qe2),.a qe2,.l (.ret qad qdk (qhd) qbx j6)]) [(qi3)]):=by kernel_rfl
theorem dY9:rnD prog f24 dnS [.one (.agg W9)] true (aZ5 true [U6,W6, .not qaw, .not qb8, .eq k5 i9])=some (fq8 ([.d kFi,.d (.bv 3),.b qbg,.b (.bv 2),.l (.ret qad (.ap 120 (.ap 92 o6 (.ap 92 (.il 18) (.ap 91 (.il 17) j8 qav) l6) l6) i9 i9) (qhd) j5 j6)]++waV++waV++[.b qbg,.b (.bv 2),.l (.ret qad (.ap 120 (.ap 92 o6 (.ap 91 (.il 17) j8 qav) l6) i9 i9) (qhd) j5 j6),.l (.ret qad qe1 (qhd) j5 j6),.l (.ret qad qe1 (qhd) j5 j6),.b (.bv 3),.b (.eq n8 kWt),.d qbg,.l (.ret qad qev (qhd) j5 j6),.l (.ret qad (.ap 120 (.ap 92 o6 qar l6) i9 i9) (qhd) j5 j6)]++waV++[.b o9]++waV++[.b (.bv 1),.b cO8,.l (.ret qad (.ap 120 (.ap 92 o6 (.ap 136 qci j5 U2) l6) i9 i9) (qhd) (.ap 137 qci j5 U2) qeb),.l (.ret qad (.ap 120 qci i9 i9) (qhd) j5 qeb),.l (.ret qad qe1 (qhd) j5 j6)]) [(qi4)]):=by kernel_rfl
theorem eM5{J:Env}(hf:J.f=cnF)(Y L z:Tm):B4 J (.ap 133 Y L z)=(B4 J Y).Z4 (W5 (hd (u9 J z))) ((B4 J Y).K8 (u9 J L).c (W5 (hd (u9 J z)))):=by
 unfold B4;rw[F3 hf];exact U7 _
theorem eM4{J:Env}(hf:J.f=cnF)(Y L z:Tm):B4 J (.ap 136 Y L z)=(B4 J Y).aA5 (u9 J L).c (W5 (hd (u9 J z))) ((B4 J Y).K8 (u9 J L).c (W5 (hd (u9 J z)))):=by
 unfold B4;rw[F3 hf];exact U7 _
theorem aX2{J:Env}(hf:J.f=cnF){Y y z:Tm}{Z:Cn}{b:Bool}(hY:B4 J Y=Z)(hb:Z.has=b):E6 J (B4 J (.ap 120 (.ap 92 o6 Y (.bl b)) y z)) [⟨28, .bl b⟩]=Z.F6:=
 aD1 hf ((ac4 hf (by rw[hY];exact hb)).trans hY) hb
theorem cG7(c:Cn)(s:Sg)(a:Int)(L:Rws):(c.Z4 s a).K8 L s=c.K8 L s:=by
 have e4:∀ c:Cn,c.aJ0.K8 L s=c.K8 L s:=fun c=>by
  unfold Cn.aJ0
  (repeat' split)<;>rfl
 have eu:c.up.K8 L s=c.K8 L s:=by
  unfold Cn.up
  (repeat' split)<;>rfl
 unfold Cn.Z4;split
 .rfl
 .split
  .exact eu
  .rw[e4];unfold Cn.aW9 Cn.ag6;have e2:(c.up.ag7 s (c.B5 s)).K8 L s=c.K8 L s:=by
    unfold Cn.ag7;split
    .rw[aZ7];split<;>exact eu
    .split
     .unfold Cn.dup;split<;>exact eu
     .exact eu
   split
   .exact e2
   .exact e2
section
variable{X:Cs}{s:Sg}(hh:X.c.has=true)
include hh
theorem cO9:B4 (sgF X s) a08=X.c.Z4 s (X.c.K8 X.L s):=by
 unfold a08;rw[eM5 (I8 X s),bJ6 hh,z_g];rfl
theorem eA8:(u9 (sgF X s) cO8).b=X.c.aE9 s (X.c.K8 X.L s):=by
 have e:=bJ6 (s:=s) hh;unfold B4 at e;unfold cO8;rw[F3 (I8 X s)];show(R7 (hd (u9 (sgF X s) kCv))).aE9 _ ((R7 (hd (u9 (sgF X s) kCv))).K8 _ _)=_;rw[e];rfl
theorem ci2:rsL (u9 (sgF X s) qeb).c=X.R++X.c.aC5 s:=by
 have e:=bJ6 (s:=s) hh;unfold B4 at e;show rsL (Y3 X.R++(u9 (sgF X s) (.ap 125 kCv i9 U2)).c)=_;rw[F3 (I8 X s)];show rsL (Y3 X.R++Y3 ((R7 (hd (u9 (sgF X s) kCv))).aC5 _))=_;rw[e];have:Y3 X.R++Y3 (X.c.aC5 s)=Y3 (X.R++X.c.aC5 s):=by unfold Y3;rw[bb]
 exact(congrArg rsL this).trans (A4 _)
theorem ci3:B4 (sgF X s) qci =X.c.Z4 s (X.c.K8 X.L s):=by
 rw[ac4 (I8 X s) (by rw[cO9 hh];exact(aO0 _ _ _).2.trans hh),cO9 hh]
theorem eQ1:B4 (sgF X s) (.ap 136 qci j5 U2)=(X.c.Z4 s (X.c.K8 X.L s)).aA5 X.L s (X.c.K8 X.L s):=by
 rw[eM4 (I8 X s),ci3 hh,z_g];show(X.c.Z4 s (X.c.K8 X.L s)).aA5 X.L s ((X.c.Z4 s (X.c.K8 X.L s)).K8 X.L s)=_;rw[cG7]
theorem eQ2:(u9 (sgF X s) (.ap 137 qci j5 U2)).c=(X.c.Z4 s (X.c.K8 X.L s)).aA4 X.L s (X.c.K8 X.L s):=by
 have e:=ci3 (s:=s) hh;unfold B4 at e;rw[F3 (I8 X s)];show(R7 (hd (u9 (sgF X s) qci))).aA4 _ _ ((R7 (hd (u9 (sgF X s) qci))).K8 _ _)=_;rw[e];show(X.c.Z4 s (X.c.K8 X.L s)).aA4 X.L s ((X.c.Z4 s (X.c.K8 X.L s)).K8 X.L s)=_;rw[cG7]
end
theorem dz8{c:Cn}{s:Sg}(h:s.rst=true)(h2:¬(c.st=9/\s.fin=true)):c.aj8 s=c:=by
 unfold Cn.aj8;rw[if_neg h2,h];show({ c with owed:=c.owed||false }:Cn)=c;rw[Bool.or_false]
theorem eB9{J:Env}(E:CnEnv J):∀ q∈dnS,q.Ok prog J:=by
 intro q hq;unfold dnS at hq;rcases aa.1 hq with rfl|hq
 .exact bm8 E
 rcases aa.1 hq with rfl|hq
 .exact b01 E
 rcases aa.1 hq with rfl|hq
 .exact eB6 E
 rcases aa.1 hq with rfl|hq
 .exact ck4 E
 rcases aa.1 hq with rfl|hq
 .exact eE4 E
 rcases aa.1 hq with rfl|hq
 .exact eD9 E
 .exact ao8 E q hq
theorem ad4{w:World}{g:Nat}{a:Da}{X:Cs}(W:DcW w g a X){has:Bool}(hh:X.c.has=has){s:Sg}{cx:Cx}(hcx:cx.ok (sgF X s)){ys:List Cm}
 (hrun:rnD prog f24 dnS [.one (.agg W9)] has cx=some ys) {v:Value} {X':Cs}
 (hR:aC6 (Cm.bI1 (sgF X s) X.c (aq1 v X')) ys):Calls prog 24 #[.pointer (some ⟨g,0,none⟩),sgV s] w (F7 fun v' w'=>v'=v/\aS6 w w' g (Y8 a g has) X'):=
 Y2 (is:=[s.fa,s.fp,s.ta,s.tp,s.sq,s.ak,s.win,s.mss]) (bs:=[s.syn,s.hak,s.fin,s.rst]) (ss:=[s.body]) (eB9 (L6 ..)) func24 rfl hrun W hh hcx hR rfl
def am5(w:World)(g:Nat)(a:Da)(X:Cs)(s:Sg):Prop:=Calls prog 24 #[.pointer (some ⟨g,0,none⟩),sgV s] w (F7 fun v' w'=>v'= .int .i64 (X.c.inE s)/\aS6 w w' g (Y8 a g X.c.has) ⟨X.c.inC X.L s,X.c.inL X.L s,X.R++X.c.inR X.L s⟩)
section
variable{w:World}{g:Nat}{a:Da}{X:Cs}(W:DcW w g a X)(hz:SzX X)(hr:RgX X.c)(hm:MrX X){s:Sg}(hs:SgAny s)
include W hz hr hm hs
omit hm in
theorem dg9(h:¬Cn.err s=0):am5 w g a X s:=by
 unfold am5;obtain⟨e1,e2,e3⟩:=am9 (c:=X.c) (s:=s) (by rw[bY2 h];exact h) X.L;rw[e1,e2,e3,bY2 h,ao];cases hh:X.c.has with
 | false=>
   refine ad4 W hh (cxF (Z1 hh hz hr (bW1 hs)).bs (a73 (l:=[.not qfs]) ?_)) dZ2 ⟨fun hpc=>T7 (fun N=>rfl) (aC0 hh) (fun _=>rfl) (A4 _),trivial⟩;simp only[A6,y9,A9,A0,and_true];exact h
 | true=>
   refine ad4 W hh (cxF (Z1 hh hz hr (bW1 hs)).bs (a73 (l:=[.not qfs]) ?_)) dZ1 ⟨fun hpc=>T7 (fun N=>rfl) (aC0 hh) (fun _=>rfl) (A4 _),trivial⟩;simp only[A6,y9,A9,A0,and_true];exact h
theorem eC4(h:Cn.err s=0)(h1:¬(s.fa=X.c.ra/\s.fp=X.c.rp)):am5 w g a X s:=by
 unfold am5;have e0:=dO2 h h1;obtain⟨e1,e2,e3⟩:=am9 (c:=X.c) (s:=s) (by rw[e0];decide) X.L;rw[e1,e2,e3,e0,ao];cases hh:X.c.has with
 | false=>
   refine ad4 W hh (aM2 hz hr hm hs h hh (l:=[.not U6]) ?_) da5 ⟨fun hpc=>T7 (fun N=>rfl) (aC0 hh) (fun _=>rfl) (A4 _),trivial⟩;simp only[A6,y9,aL2,and_true];exact h1
 | true=>
   refine ad4 W hh (aM2 hz hr hm hs h hh (l:=[.not U6]) ?_) da4 ⟨fun hpc=>T7 (fun N=>rfl) (aC0 hh) (fun _=>rfl) (A4 _),trivial⟩;simp only[A6,y9,aL2,and_true];exact h1
theorem eC3(h:Cn.err s=0)(h0:s.fa=X.c.ra/\s.fp=X.c.rp)(h1:¬(s.ta=X.c.la/\s.tp=X.c.lp)):am5 w g a X s:=by
 unfold am5;have e0:=dO1 h h1;obtain⟨e1,e2,e3⟩:=am9 (c:=X.c) (s:=s) (by rw[e0];decide) X.L;rw[e1,e2,e3,e0,ao];cases hh:X.c.has with
 | false=>
   refine ad4 W hh (aM2 hz hr hm hs h hh (l:=[U6, .not W6]) ?_) da3 ⟨fun hpc=>T7 (fun N=>rfl) (aC0 hh) (fun _=>rfl) (A4 _),trivial⟩;simp only[A6,y9,aL2,aT2,and_true];exact⟨h0,h1⟩
 | true=>
   refine ad4 W hh (aM2 hz hr hm hs h hh (l:=[U6, .not W6]) ?_) da2 ⟨fun hpc=>T7 (fun N=>rfl) (aC0 hh) (fun _=>rfl) (A4 _),trivial⟩;simp only[A6,y9,aL2,aT2,and_true];exact⟨h0,h1⟩
theorem eC2(h:Cn.err s=0)(h0:s.fa=X.c.ra/\s.fp=X.c.rp)(h1:s.ta=X.c.la/\s.tp=X.c.lp)(h2:X.c.st=0):am5 w g a X s:=by
 unfold am5;have e0:=dO0 h h0 h1 h2;obtain⟨e1,e2,e3⟩:=am9 (c:=X.c) (s:=s) (by rw[e0];decide) X.L;rw[e1,e2,e3,e0,ao];cases hh:X.c.has with
 | false=>
   refine ad4 W hh (aM2 hz hr hm hs h hh (l:=[U6,W6, .eq k4 i9]) ?_) dY8 ⟨fun hpc=>T7 (fun N=>rfl) (aC0 hh) (fun _=>rfl) (A4 _),trivial⟩;simp only[A6,A9,A0,aL2,aT2,kdA,and_true];exact⟨h0,h1,h2⟩
 | true=>
   refine ad4 W hh (aM2 hz hr hm hs h hh (l:=[U6,W6, .eq k4 i9]) ?_) dY7 ⟨fun hpc=>T7 (fun N=>rfl) (aC0 hh) (fun _=>rfl) (A4 _),trivial⟩;simp only[A6,A9,A0,aL2,aT2,kdA,and_true];exact⟨h0,h1,h2⟩
theorem eC1(h:Cn.err s=0)(h0:s.fa=X.c.ra/\s.fp=X.c.rp)(h1:s.ta=X.c.la/\s.tp=X.c.lp)(h2:X.c.st=1)(hh:X.c.has=false):am5 w g a X s:=by
 unfold am5;have e0:=bt1 h h0 h1 (by omega);obtain⟨e1,e2,e3⟩:=c06 e0 h2 X.L;rw[e1,e2,e3,e0,hh];refine ad4 W hh (aM2 hz hr hm hs h hh (l:=[U6,W6, .not qaw, .eq k4 l9]) ?_) dZ0 ?_
 .simp only[A6,A9,y9,A0,aL2,aT2,kdA,and_true];exact⟨h0,h1,by omega,h2⟩
 repeat'(first|exact V9|refine W0 ?_ ?_)
 all_goals
  intro hpc;replace hpc:A6 (sgF X s) _:=hpc;simp only[A6,tmA,F8,kdA,bt0,aL2,aT2,bX8,bs9,sf0,sf1,sf2,sf3,sf4,sf5,sf6,sg0,sg1,sg2,sg3,eH2,and_true]at hpc
  (repeat(obtain⟨_,hpc⟩:=hpc))
  clear hpc;try simp only[aQ]at*
  have sn:(X.c.snt=0)=¬(0<X.c.snt):=propext (by have:=hr.r26;omega);have ev:B4 (sgF X s) qbw =X.c.syn s:=by
   rw[bV1 (I8 X s),ac4 (I8 X s) (by rw[V4];exact hh),V4,z_g]
  first
  | (show(u9 (sgF X s) _).b=true
     simp only[E5,A0,E9,eY5 (I8 X s),af2 (I8 X s),ev];have d1:=hr.d1;have d3:=hr.d3;show(0:Int)<=X.c.snt - X.c.una;omega)
  | (have e:X.c.aI6 s=X.c/\X.c.aF5 X.L s=X.L/\X.c.aC7 s=[]:=by
      unfold Cn.aI6 Cn.aF5 Cn.aC7 Cn.ag5;simp[*]
     rw[e.1,e.2.1,e.2.2,ao];exact T7 (fun N=>rfl) (aX2 (I8 X s) (V4 ..) (by exact hh)) (fun _=>rfl) (A4 _))
  | (have e:X.c.aI6 s=X.c/\X.c.aF5 X.L s=X.L/\X.c.aC7 s=[s.ak]:=by
      unfold Cn.aI6 Cn.aF5 Cn.aC7 Cn.ag5;simp[*]
     rw[e.1,e.2.1,e.2.2];exact T7 (fun N=>rfl) (aX2 (I8 X s) (V4 ..) (by exact hh)) (fun _=>rfl) (aY0 X s.ak))
  | (have e:X.c.aI6 s= { X.c with st:=0,why:=11 }/\X.c.aF5 X.L s=X.L/\X.c.aC7 s=[]:=by
      unfold Cn.aI6 Cn.aF5 Cn.aC7 Cn.ag5;simp[*]
     rw[e.1,e.2.1,e.2.2,ao];exact T7 (fun N=>rfl) (aX2 (I8 X s) (by rw[d_5 (I8 X s),d_4 (I8 X s),V4];rfl) (by exact hh)) (fun _=>rfl) (A4 _))
  | (have e:X.c.aI6 s= { (X.c.syn s).V7 1 with st:=3,owed:=true }/\X.c.aF5 X.L s=[]/\X.c.aC7 s=[]:=by
      unfold Cn.aI6 Cn.aF5 Cn.aC7 Cn.ag5;simp[*]
     rw[e.1,e.2.1,e.2.2,ao];refine T7 (fun N=>rfl) (aX2 (I8 X s) ?_ (by exact((aR1 _ _).2.trans rfl))) (fun _=>rfl) (A4 _);have ev:B4 (sgF X s) qbw =X.c.syn s:=by
      rw[bV1 (I8 X s),ac4 (I8 X s) (by rw[V4];exact hh),V4,z_g]
     rw[bF2 (I8 X s),d_4 (I8 X s),bI2 (I8 X s),ac4 (I8 X s) (by rw[ev];rfl),ev];rfl)
  | (have e:X.c.aI6 s= { X.c.syn s with st:=2,cur:=X.c.una }/\X.c.aF5 X.L s=[]/\X.c.aC7 s=[]:=by
      unfold Cn.aI6 Cn.aF5 Cn.aC7 Cn.ag5;simp[*]
     rw[e.1,e.2.1,e.2.2,ao];refine T7 (fun N=>rfl) (aX2 (I8 X s) ?_ (by exact rfl)) (fun _=>rfl) (A4 _);have ev:B4 (sgF X s) qbw =X.c.syn s:=by
      rw[bV1 (I8 X s),ac4 (I8 X s) (by rw[V4];exact hh),V4,z_g]
     rw[aI3 (I8 X s),d_4 (I8 X s),af2 (I8 X s),ev];rfl)
theorem eC0(h:Cn.err s=0)(h0:s.fa=X.c.ra/\s.fp=X.c.rp)(h1:s.ta=X.c.la/\s.tp=X.c.lp)(h2:¬X.c.st=0)(h3:¬X.c.st=1)(hw:X.c.why=0)(hh:X.c.has=true):am5 w g a X s:=by
 unfold am5;have e0:=bt1 h h0 h1 h2;obtain⟨e1,e2,e3⟩:=cP2 e0 h3 X.L;rw[e1,e2,e3,e0,hh];refine ad4 W hh (aM2 hz hr hm hs h hh (l:=[U6,W6, .not qaw, .not qb8, .eq k5 i9]) ?_) dY9 ?_
 .simp only[A6,A9,y9,A0,aL2,aT2,kdA,and_true];exact⟨h0,h1,h2,h3,hw⟩
 repeat'(first|exact V9|refine W0 ?_ ?_)
 all_goals
  intro hpc;replace hpc:A6 (sgF X s) _:=hpc;simp only[A6,tmA,F8,kdA,bt0,aL2,aT2,bX8,bs9,sf0,sf1,sf2,sf3,sf4,sf5,sf6,sg0,sg1,sg2,sg3,eA8 hh,and_true]at hpc
  (repeat(obtain⟨_,hpc⟩:=hpc))
  clear hpc;try simp only[aQ]at*
 all_goals first
  | (have e:=cy3 (c:=X.c) (L:=X.L) (s:=s) (by assumption)
     have q1:s.rst=true:=by assumption
     have q2:¬(X.c.st=9/\s.fin=true):=by simp[*]
     have e4:=dz8 (c:=X.c) (s:=s) q1 q2;rw[e.1,e.2.1,e.2.2,e4,ao];exact T7 (fun N=>rfl) (aX2 (I8 X s) (V4 ..) (by exact hh)) (fun _=>rfl) (A4 _))
  | (have e:=cy3 (c:=X.c) (L:=X.L) (s:=s) (by assumption)
     rw[e.1,e.2.1,e.2.2,ao];refine T7 (fun N=>rfl) (aX2 (I8 X s) ?_ (by exact((bE5 _ _).trans hh))) (fun _=>rfl) (A4 _);unfold Cn.aj8;simp only[bF2 (I8 X s),eD3 (I8 X s),d_4 (I8 X s),V4,z7,A0,kdA];simp[*];try rfl)
  | (have e:=dz7 (c:=X.c) (L:=X.L) (s:=s) (by assumption) (by assumption) (by assumption)
     rw[e.1,e.2.1,e.2.2,ao];first
     | rw[if_pos (show X.c.st=9 from by assumption)]
     | rw[if_neg (show ¬X.c.st=9 from by assumption)]
     refine T7 (fun N=>rfl) (aX2 (I8 X s) ?_ (by exact hh)) (fun _=>rfl) (A4 _);first
     | (rw[d_5 (I8 X s),d_4 (I8 X s),V4];rfl)
     | (rw[d_4 (I8 X s),V4];rfl))
  | (have e:=dz6 (c:=X.c) (L:=X.L) (s:=s) (by assumption) (by simp[*]) (by simp[*])
     rw[e.1,e.2.1,e.2.2,ao];refine T7 (fun N=>rfl) (aX2 (I8 X s) ?_ (by exact hh)) (fun _=>rfl) (A4 _);rw[bF2 (I8 X s),V4];rfl)
  | (have e:=dz5 (c:=X.c) (L:=X.L) (s:=s) (by assumption) (by assumption) (by assumption) (by assumption)
     rw[e.1,e.2.1,e.2.2];first
     | (rw[if_pos (show X.c.aE9 s (X.c.K8 X.L s)=true from by assumption),if_pos (show X.c.aE9 s (X.c.K8 X.L s)=true from by assumption)]
        exact T7 (fun N=>rfl) (aX2 (I8 X s) (eQ1 hh) (by exact((ao4 _ _ _ _).2.trans ((aO0 _ _ _).2.trans hh)))) (fun _=>eQ2 hh) (ci2 hh))
     | (have eb:¬X.c.aE9 s (X.c.K8 X.L s)=true:=by simp[*]
        rw[if_neg eb,if_neg eb];exact T7 (fun N=>rfl) (aX2 (I8 X s) (cO9 hh) (by exact((aO0 _ _ _).2.trans hh))) (fun _=>rfl) (ci2 hh)))
  | (have e:=dz4 (c:=X.c) (L:=X.L) (s:=s) (by assumption) (by assumption) (by assumption) (by assumption)
     rw[e.1,e.2.1,e.2.2,ao];exact T7 (fun N=>rfl) (aX2 (I8 X s) (V4 ..) (by exact hh)) (fun _=>rfl) (A4 _))
theorem ck2(hS:StX X.c):am5 w g a X s:=by
 by_cases h:Cn.err s=0
 .by_cases h0:s.fa=X.c.ra/\s.fp=X.c.rp
  .by_cases h1:s.ta=X.c.la/\s.tp=X.c.lp
   .by_cases h2:X.c.st=0
    .exact eC2 W hz hr hm hs h h0 h1 h2
    .by_cases h3:X.c.st=1
     .exact eC1 W hz hr hm hs h h0 h1 h3 (hS.one h3)
     .exact eC0 W hz hr hm hs h h0 h1 h2 h3 (hS.why h2) (hS.two h2 h3)
   .exact eC3 W hz hr hm hs h h0 h1
  .exact eC4 W hz hr hm hs h h0
 .exact dg9 W hz hr hs h
end
section
variable{X:Cs}{J:Env}{d:Cn}{out:List Sg}{has:Bool}{w w':World}{g:Nat}{a:Da}{N:Bn}{a':Act}{s:Sy.St}
theorem ck6(E:OE X J):∀ q∈af7 dlG::dgS,q.Ok prog J:=by
 intro q hq;rcases aa.1 hq with rfl|hq
 .exact b01 E.cn
 .rcases aa.1 hq with rfl|hq
  .exact c48 E.g E.f
  .exact ao8 E.cn q hq
theorem a35(E:OE X J):∀ q∈dgS,q.Ok prog J:=fun q hq=>ck6 E q (aj _ hq)
theorem bK1(E:OE X J)(hM:Md J (fun i=>i∈Y8 a g has) w (X0 (fun _=>g) 2 a) 10 s N a' w')
 {Y:Tm} {ch:List (Nat × Tm)} {drops:List Nat} {n:Nat} {l T:Tm} (hk:bh7 prog f10 n s=(some (oZ n l),some (oTb n T),some (Y,ch, .cv 1,tn,has,[],drops,true))) (hd:aS3 n drops=false) (hn:n≠0)
 (hc:E6 J (cnY J X.c Y) ch=X.c.aN5) (hT:(u9 J T).c=(X.c.aB3 X.L X.R).map sgR) (hl:(u9 J l).i=((X.c.aB3 X.L X.R).length:Int)):bodyPost prog f10 (F7 (cA0 w g (Y8 a g has) X)) .ret a' w':=by
 unfold bh7 at hk;simp only[Prod.mk.injEq]at hk;obtain⟨hr,htb,hrd⟩:=hk;unfold dRd at hrd;obtain⟨rd,hrd1,e⟩:=aw.1 hrd;simp only[Prod.mk.injEq]at e;obtain⟨e1,e2,e3,e4,e5,e6,e7,e8⟩:=e;refine aL9 (B:=⟨J,fun i=>i∈Y8 a g has,w,X0 (fun _=>g) 2 a,10⟩) hM hr ?_;obtain⟨a1,W1,h1,h2,h3⟩:=eC7 E.cn E.h0 hM hrd1 e6 e8 bA;rw[e2,e1,e3,e4,hc]at W1;rw[e2,e1,hc]at h1;obtain⟨hb,_⟩:=U4 htb;have hK:RowT w' (N n) (N (n+1)) 38 aH7 (u9 J T).c:=hM.hp _ hb;rw[hT]at hK;have eL:(u9 J j5).c=X.L:=E.c1;rw[eL]at W1;refine⟨N n,N (n+1),Y8 a1 g rd.has,?_,hK,fun hc=>hM.may _ hb rfl (.inr hc) _ (I4 N (oTb n T)),⟨a1,W1,?_⟩,hM.only,h2,fun hc q=>?_⟩
 .show C.G2 J N (.slt n 13 i9 l i9)=_;rw[aE6,hl,aK];exact aD2 _ _ _ _
 .show _=Y8 a1 g X.c.aN5.has;rw[h1]
 .exact h3 _ hb (by rw[e7];exact hd) hn (.inr hc) (N n) q (I4 N (oTb n T))
theorem eD5(E:OE X J)(Y:Tm):B4 J (.ap 120 Y i9 i9)=(B4 J Y).F6:=by
 unfold B4;rw[F3 E.f];rfl
theorem DI2.eL2(I:DI2 X d out J)(hh:X.c.has=has):E6 J (cnY J X.c (oY has l4)) [(28, .bl has)]=({ d with owed:=false,again:=false,prb:=false }:Cn).F6:=by
 show E6 J (B4 J (oY has l4)) [(28, .bl has)]=_;unfold oY;rw[eD5 I.e,X9 I.e.f,c45 I.e.f,aI3 I.e.f,c46 I.e.f,aJ5 I.e.f,aJ6 I.e.f,c47 I.e.f,bF2 I.e.f,cn0 I.e];show E6 J (({ X.c with owed:=false,again:=false,prb:=false,meas:=J.i 23,wen:=J.i 24,cur:=J.i 21,snt:=J.i 22,has:=has }:Cn).F6) [(28, .bl has)]=_;rw[bw0 (aG8 _).2,I.i21,I.i22,I.i23,I.i24];subst hh;rw[I.like.e]
theorem DI2.ee4(I:DI2 X d out J)(hh:X.c.has=has)(h:X.c.owed=false):E6 J (cnY J X.c (dYk has)) [(28, .bl has)]=({ d with owed:=false,again:=false,prb:=false }:Cn).F6:=by
 show E6 J (B4 J (dYk has)) [(28, .bl has)]=_;unfold dYk;rw[eD5 I.e,X9 I.e.f,c45 I.e.f,aI3 I.e.f,c46 I.e.f,aJ5 I.e.f,aJ6 I.e.f,c47 I.e.f,cn0 I.e];show E6 J (({ X.c with again:=false,prb:=false,meas:=J.i 23,wen:=J.i 24,cur:=J.i 21,snt:=J.i 22,has:=has }:Cn).F6) [(28, .bl has)]=_;rw[bw0 (aG8 _).2,I.i21,I.i22,I.i23,I.i24];subst hh;rw[I.like.e,<-h]
theorem DI2.ee3(I:DI2 X d out J)(hs:¬X.c.st=0)(ho:out=X.c.aW8 X.L)(hd:d=X.c.aK9):
 (X.c.owed=true->out.length=0->(X.c.aB3 X.L X.R)=X.R.map X.c.rsG++(out++[d.bI0 X.L d.snt]))/\(¬(X.c.owed=true/\out.length=0)->(X.c.aB3 X.L X.R)=X.R.map X.c.rsG++out):=by
 refine⟨fun h1 h2=>?_,fun h=>?_⟩
 .unfold Cn.aB3 Cn.bU8;rw[if_neg hs,if_pos ⟨h1,by rw[<-ho];exact h2⟩,<-hd,ay h2,List.nil_append]
 .unfold Cn.aB3 Cn.bU8;rw[if_neg hs,if_neg (by rw[<-ho];exact h),ho]
theorem DI2.eL4(I:DI2 X d out J):(u9 J s5).c=(X.R.map X.c.rsG).map sgR/\((u9 J s5).c).length=X.R.length:=by
 have e:(u9 J s5).c=X.R.map fun n=>sgR (X.c.rsG n):=I.c5
 rw[e];exact⟨by rw[List.map_map];rfl,aE ..⟩
theorem DI2.dS6(I:DI2 X d out J)(e:(X.c.aB3 X.L X.R)=X.R.map X.c.rsG++out):(u9 J dT1).c=(X.c.aB3 X.L X.R).map sgR/\(u9 J dN1).i=((X.c.aB3 X.L X.R).length:Int):=by
 obtain⟨h5,l5⟩:=I.eL4;refine⟨?_,?_⟩
 .show(u9 J s5).c++J.c 6=_;rw[h5,I.c6,e,bb]
 .show(((u9 J s5).c.length:Nat):Int)+((J.c 6).length:Int)=_;rw[l5,I.len,e,az,aE];omega
theorem eD0(B:DAsk X has)(hs:¬X.c.st=0)(I:DI2 X d out J)(hp:(u9 J (.not aT6)).b=true)
 (hM:Md J (fun i=>i∈Y8 a g has) w (X0 (fun _=>g) 2 a) 10 (I1 (dr1 prog f10 has) 0) N a' w'):Y7 prog dP2 (oR f10) (Y7 prog [1,1] (y7 f10) (bodyPost prog f10 (F7 (cA0 w g (Y8 a g has) X)))) (.exit 2) a' w':=by
 obtain⟨u,N',M2⟩:=Sy.Md.aL7 hM (ea3 has) (fun u=>((I.eL3 hp I.like.ord N u).2).cx B hs);obtain⟨hNj,I2⟩:=I.eL3 hp I.like.ord N u;generalize({ J.L5 N dEx with u:=u }:Env)=J2 at M2 I2;obtain⟨ho,hd⟩:=I.ee5 hNj;obtain⟨r1,r2⟩:=I2.ee3 hs ho hd;have hC:X.c.aN5=({ d with owed:=false,again:=false,prb:=false }:Cn).F6:=by
  unfold Cn.aN5;rw[if_neg hs,hd]
 have k18':(u9 J2 k18).b=X.c.owed:=by rw[I2.e.k rfl];rfl
 refine b53 (B:=⟨J2,fun i=>i∈Y8 a g has,w,X0 (fun _=>g) 2 a,10⟩) I2.e.g (ck6 I2.e) rfl (.exit 2) (p:=dP2) (c:=oR f10) (r:=ds0 prog f10 has) rfl (dg1 has) ⟨?_,?_,?_,?_,trivial⟩ M2
 .intro hpc N3 a3 w3 M3;refine aQ5 [1,1] _ _ ?_;have h1:=hpc.1;have h2:=hpc.2.1;rw[k18']at h1;rw[A9]at h2;change J2.i 29=0 at h2;rw[I2.i29]at h2;have e:=r1 h1 U;obtain⟨h5,l5⟩:=I2.eL4;refine bK1 I2.e M3 (dg0 has) bH bH ((I2.eL2 B.o.hh).trans hC.symm) ?_ ?_
  .show(u9 J2 s5).c++(J2.c 6++(u9 J2 (as4 has)).c)=_;rw[h5,I2.ee7 B.o.hh,I2.c6,e,bb,bb];rfl
  .show((((u9 J2 s5).c.length:Nat):Int)+((J2.c 6).length:Int))+1=_;rw[l5,I2.len,e,az,az,aE];show _=((X.R.length+(out.length+1):Nat):Int);omega
 .intro hpc N3 a3 w3 M3;refine aQ5 [1,1] _ _ ?_;have h1:=hpc.1;rw[y9,k18']at h1;have h1:X.c.owed=false:=bc.2 h1;obtain⟨q1,q2⟩:=I2.dS6 (r2 fun q=>by rw[h1]at q;cases q.1);exact bK1 I2.e M3 (df9 has) bH bH ((I2.ee4 B.o.hh h1).trans hC.symm) q1 q2
 .intro hpc N3 a3 w3 M3;refine aQ5 [1,1] _ _ ?_;have h2:=hpc.1;rw[A7]at h2;change 0<J2.i 29 at h2;rw[I2.i29]at h2;obtain⟨q1,q2⟩:=I2.dS6 (r2 fun q=>by have:=q.2;omega);exact bK1 I2.e M3 (df8 has) bH bH ((I2.eL2 B.o.hh).trans hC.symm) q1 q2
 .intro hpc N3 a3 w3 M3;exfalso;have h1:=hpc.1;have h2:=hpc.2.1;rw[y9,A7]at h1;rw[y9,A9]at h2;change ¬0<J2.i 29 at h1;change ¬J2.i 29=0 at h2;rw[I2.i29]at h1 h2;omega
theorem ck5(B:DAsk X has)(hs:¬X.c.st=0)(I:DI2 X d out J)
 (hM:Md J (fun i=>i∈Y8 a g has) w (X0 (fun _=>g) 2 a) 10 (drT has) N a' w'):(Sy.I9 dP2 (oR f10)).wp prog (Y7 prog dP2 (oR f10) (Y7 prog [1,1] (y7 f10) (bodyPost prog f10 (F7 (cA0 w g (Y8 a g has) X))))) a' w':=by
 rw[dg3];refine aK0 (r:=dr1 prog f10 has) rfl (dg4 has) (fun J=>∃ d out,DI2 X d out J) (fun J=>(X.c.K3 - J.i 21).toNat) (fun J ⟨d,out,I⟩=>I.e.g) (fun J ⟨d,out,I⟩=>a35 I.e) (fun J ⟨d,out,I⟩=>I.cx B hs) (fun J ⟨d,out,I⟩=>?_) ⟨d,out,I⟩ hM;have mu:∀ J':Env,J'.i 21=(d.Y1 X.c.K3).cur->(X.c.K3 - (d.Y1 X.c.K3).cur).toNat<(X.c.K3 - d.cur).toNat->(X.c.K3 - J'.i 21).toNat<(X.c.K3 - J.i 21).toNat:=fun J' h1 h2=>by rw[h1,I.i21];exact h2
 have m1:∀{m:Tm} (N:Bn) (u:Nat->Value),(u9 J aT6).b=true->((u9 J m).i=if d.ou.aB5 d.cur X.c.K3 d.mss then X.c.own else 0)->(u9 J qdf).b=true->(u9 J qd5).b=true->(∃ d out,DI2 X d out { J.L5 N (dB1 has m)with u:=u })/\(X.c.K3 - ({ J.L5 N (dB1 has m)with u:=u }:Env).i 21).toNat<(X.c.K3 - J.i 21).toNat:=fun N u hp hm q1 q2=>by
  obtain⟨s1,s2,s3⟩:=I.eL1 B.o.r B.o.hh hp hm N u;rw[A9]at q1 q2;change J.i 23=0 at q1;unfold aT7 at q2;rw[I.at]at q2;change _=J.i 22 at q2;rw[I.i23]at q1;rw[I.i22]at q2;have Jj:=s1 q1 q2;exact⟨⟨_,_,Jj⟩,mu _ Jj.i21 s3⟩
 have m2:∀{m:Tm} (N:Bn) (u:Nat->Value),(u9 J aT6).b=true->((u9 J m).i=if d.ou.aB5 d.cur X.c.K3 d.mss then X.c.own else 0)->((u9 J (.not qdf)).b=true\/(u9 J (.not qd5)).b=true)->(∃ d out,DI2 X d out { J.L5 N (dB2 has m)with u:=u })/\(X.c.K3 - ({ J.L5 N (dB2 has m)with u:=u }:Env).i 21).toNat<(X.c.K3 - J.i 21).toNat:=fun N u hp hm q=>by
  obtain⟨s1,s2,s3⟩:=I.eL1 B.o.r B.o.hh hp hm N u;have q':¬(d.ou.pAt d.cur X.c.K3 d.mss=d.snt/\d.meas=0):=fun⟨q1,q2⟩=>by
   rcases q with q|q
   .rw[y9,A9]at q;change ¬J.i 23=0 at q;rw[I.i23]at q;exact q q2
   .rw[y9,A9]at q;unfold aT7 at q;rw[I.at]at q;change ¬_=J.i 22 at q;rw[I.i22]at q;exact q q1
  have Jj:=s2 q';exact⟨⟨_,_,Jj⟩,mu _ Jj.i21 s3⟩
 refine⟨?_,?_,?_,?_,?_,?_,?_,trivial⟩
 .intro hpc N4 a4 w4 M4;exact eD0 B hs I hpc.1 M4
 .intro hpc N u;exact m1 N u hpc.2.2.2.1 (I.e.own I.syn hpc.2.2.1) hpc.1 hpc.2.1
 .intro hpc N u;exact m2 N u hpc.2.2.2.1 (I.e.own I.syn hpc.2.2.1) (.inl hpc.1)
 .intro hpc N u;exact m2 N u hpc.2.2.1 (I.e.own I.syn hpc.2.1) (.inr hpc.1)
 .intro hpc N u;exact m1 N u hpc.2.2.2.1 (I.e.am4 I.syn hpc.2.2.1) hpc.1 hpc.2.1
 .intro hpc N u;exact m2 N u hpc.2.2.2.1 (I.e.am4 I.syn hpc.2.2.1) (.inl hpc.1)
 .intro hpc N u;exact m2 N u hpc.2.2.1 (I.e.am4 I.syn hpc.2.1) (.inr hpc.1)
def cHf:List Tm:=cHs false++[.not af4]
theorem eD1(B:DAsk X has)(I:OI1 X X.R.length J)
 (hM:Md J (fun i=>i∈Y8 a g has) w (X0 (fun _=>g) 2 a) 10 (dqT has []) N a' w'):(oR f10).wp prog (Y7 prog [1,1] (y7 f10) (bodyPost prog f10 (F7 (cA0 w g (Y8 a g has) X)))) a' w':=by
 have more:∀ l:List Tm,(∀ t∈l,(u9 J t).b=true)->Md J (fun i=>i∈Y8 a g has) w (X0 (fun _=>g) 2 a) 10 (dqT has l) N a' w':=fun l hl=>⟨hM.act,hM.hp,hM.ne,hM.may,I.cxB B.o hl,hM.only,hM.old⟩
 by_cases hs:X.c.st=0
 .have e4:(u9 J qaw).b=true:=by rw[A9,I.e.k rfl];exact hs
  refine ag2 (B:=⟨J,fun i=>i∈Y8 a g has,w,X0 (fun _=>g) 2 a,10⟩) (sp:=dgS) (p:=dP2) (c:=oR f10) I.e.g (a35 I.e) rfl (r:=dq0 prog f10 has [.eq k4 i9]) rfl (dg5 has) ⟨?_,trivial⟩ (more _ fun t ht=>by rw[ah.1 ht];exact e4);intro _ N7 a7 w7 M7;refine aQ5 [1,1] _ _ ?_;have c5:=I.c5;rw[List.take_length]at c5;have eo:X.c.aB3 X.L X.R=X.R.map X.c.rsG:=by
   unfold Cn.aB3;rw[if_pos hs,ao]
  refine bK1 I.e M7 (eB4 has) bH bA ?_ ?_ ?_
  .unfold Cn.aN5;rw[if_pos hs];exact bw0 B.o.hh
  .show J.c 5=_;rw[c5,eo,List.map_map];rfl
  .show J.i 19=_;rw[I.i19,eo,aE]
 .have hH:∀ t∈cHs has,(u9 J t).b=true:=fun t ht=>by
   obtain⟨s1,s2⟩:=B.s hs;rcases aa.1 ht with rfl|ht
   .rw[y9,A9,I.e.k rfl];exact hs
   .rw[ah.1 ht];cases has with
    | true=>
      show(u9 J (.not qb8)).b=true;rw[y9,A9,I.e.k rfl];exact s1 rfl
    | false=>
      show(u9 J qb8).b=true;rw[A9,I.e.k rfl];exact s2 rfl
  have es:(u9 J ac6).b=X.c.ou.aB5 X.c.una X.c.snt X.c.mss:=by rw[I.e.k rfl];rfl
  have one:∀{m l:Tm} (N:Bn) (u:Nat->Value),(u9 J k19).b=true->(u9 J aL8).b=true->((u9 J m).i=if X.c.ou.aB5 X.c.una X.c.snt X.c.mss then X.c.own else 0)->(u9 J l).i=X.c.K3->∃ d out,DI2 X d out { J.L5 N (dE0 l9 (aU3 kOu w6 kLo has m) l)with u:=u }:=fun N u h1 h2 hm hl=>by
   obtain⟨e1,e2⟩:=I.ed8 B.o h1 h2 hm;exact⟨_,_,I.cs5 B.o.r e1 e2 hl N u⟩
  have non:∀{l:Tm} (N:Bn) (u:Nat->Value),¬(X.c.again=true/\¬X.c.ou.pN X.c.una X.c.snt X.c.mss)->(u9 J l).i=X.c.K3->∃ d out,DI2 X d out { J.L5 N (dE0 i9 tn l)with u:=u }:=fun N u h hl=>by
   obtain⟨e1,e2⟩:=OI1.eU8 (J:=J) h;exact⟨_,_,I.cs5 B.o.r e1 e2 hl N u⟩
  cases has with
  | true=>
    refine aa2 (sp:=dgS) (p:=dP2) (c:=oR f10) (s:=dqT true (cHs true)) (T:=drT true) (r:=dq0 prog f10 true (cHs true)) rfl c38 (fun J=>∃ d out,DI2 X d out J) (fun J ⟨d,out,I⟩=>I.cx B hs) I.e.g (a35 I.e) ⟨?_,?_,?_,?_,?_,?_,?_,?_,trivial⟩ (fun J' ⟨d,out,Jj⟩ N a w M=>ck5 B hs Jj M) (more _ hH)
    .intro hpc N u;exact one N u hpc.2.2.2.1 hpc.2.2.1 (I.e.own es hpc.2.1) (I.e.m2 hpc.1)
    .intro hpc N u;exact one N u hpc.2.2.2.1 hpc.2.2.1 (I.e.own es hpc.2.1) (I.e.m1 B.o hpc.1)
    .intro hpc N u;exact one N u hpc.2.2.2.1 hpc.2.2.1 (I.e.am4 es hpc.2.1) (I.e.m2 hpc.1)
    .intro hpc N u;exact one N u hpc.2.2.2.1 hpc.2.2.1 (I.e.am4 es hpc.2.1) (I.e.m1 B.o hpc.1)
    .intro hpc N u;exact non N u (I.e.bD5 hpc.2.1) (I.e.m2 hpc.1)
    .intro hpc N u;exact non N u (I.e.bD5 hpc.2.1) (I.e.m1 B.o hpc.1)
    .intro hpc N u;exact non N u (I.e.bU1 hpc.2.1) (I.e.m2 hpc.1)
    .intro hpc N u;exact non N u (I.e.bU1 hpc.2.1) (I.e.m1 B.o hpc.1)
  | false=>
    have e24:(u9 J (.not af4)).b=true:=by
     show(u9 J (.not qew)).b=true;rw[y9,A7,I.e.k (t:=w6) rfl];have h0:X.c.una=0:=B.o.u B.o.hh;show ¬0<X.c.una;omega
    refine aa2 (sp:=dgS) (p:=dP2) (c:=oR f10) (s:=dqT false cHf) (T:=drT false) (r:=dq0 prog f10 false cHf) rfl c39 (fun J=>∃ d out,DI2 X d out J) (fun J ⟨d,out,I⟩=>I.cx B hs) I.e.g (a35 I.e) ⟨?_,?_,?_,?_,trivial⟩ (fun J' ⟨d,out,Jj⟩ N a w M=>ck5 B hs Jj M) (more _ fun t ht=>(aC.1 ht).elim (hH t) fun q=>by rw[ah.1 q];exact e24)
    .intro hpc N u;exact one N u hpc.2.2.1 hpc.2.1 (I.e.own es hpc.1) (I.e.m1 B.o e24)
    .intro hpc N u;exact one N u hpc.2.2.1 hpc.2.1 (I.e.am4 es hpc.1) (I.e.m1 B.o e24)
    .intro hpc N u;exact non N u (I.e.bD5 hpc.1) (I.e.m1 B.o e24)
    .intro hpc N u;exact non N u (I.e.bU1 hpc.1) (I.e.m1 B.o e24)
end
theorem bY6{X:Cs}{has:Bool}{w:World}{g:Nat}{a:Da}(W:DcW w g a X)(B:DAsk X has):Calls prog 10 #[.pointer (some ⟨g,0,none⟩)] w (F7 (cA0 w g (Y8 a g has) X)):=by
 have T:TellsD (H8 X [] [] []) has (tsY j8 has) j5 j6 X:=bE1 rfl rfl B.o.hh (fun _=>rfl) rfl;have hM:=dP4 (J:=H8 X [] [] []) rfl W T (Z1 B.o.hh B.o.z B.o.r (by3 B.o.m));have E0:OE X (H8 X [] [] []):=⟨fun i=>rfl,rfl,rfl,rfl,rfl,rfl⟩;refine aH2 (B:=⟨H8 X [] [] [],fun i=>i∈Y8 a g has,w,X0 (fun _=>g) 2 a,10⟩) (sp:=dgS) (p:=oP1) (xs:=[.one (.c (.ptr 0 0))]) (s:=⟨[],a10 0 2 has (tsY j8 has) j5 j6,V5 has oMr,10⟩) (r:=dp0 prog f10 has) (fun i=>rfl) (a35 E0) rfl func10 rfl rfl (dg8 has) hM ⟨?_,trivial⟩ rfl;intro _ N a1 w1 M1;show(Sy.I9 oP1 (y7 f10)).wp prog (Y7 prog oP1 (y7 f10) _) a1 w1;rw[dg6];have fr:=eR8 has;simp only[m5]at fr;obtain⟨N2,M2⟩:=Sy.Md.bl6 M1 3 60 38 aH7 (show 10<=60 by decide) fr.1.1 fr.1.2;obtain⟨N2',M2'⟩:=Sy.Md.bl6 M2 4 62 38 aH7 (show 10<=62 by decide) fr.2.1 fr.2.2;have I0:∀ u,OI1 X 0 { (H8 X [] [] []).L5 N2' [.i 19 i9, .i 20 i9, .c 5 tn]with u:=u }:=fun u=>⟨⟨fun i=>rfl,rfl,rfl,rfl,rfl,rfl⟩,cc8 W.tab,bf _,rfl,rfl,rfl⟩
 obtain⟨u,N3,M3⟩:=Sy.Md.aL7 M2' (ea5 has) (fun u=>(I0 u).cx B.o);refine aK0 (r:=dp1 prog f10 has) rfl (dg7 has) (fun J=>∃ k,OI1 X k J) (fun J=>((X.R.length:Int) - J.i 20).toNat) (fun J ⟨k,I⟩=>I.e.g) (fun J ⟨k,I⟩=>a35 I.e) (fun J ⟨k,I⟩=>I.cx B.o) (fun J ⟨k,I⟩=>?_) ⟨0,I0 u⟩ M3;have e2:(J.c 2).length=X.R.length:=by rw[I.e.c2,aT8]
 have h20:=I.i20;refine⟨?_,?_,trivial⟩
 .intro hpc N u;have q:=hpc.1;rw[A7]at q;change J.i 20<((J.c 2).length:Int)at q;have hlt:k<X.R.length:=by omega
  refine⟨⟨k+1,I.eK8 hlt N u⟩,?_⟩;show((X.R.length:Int) - (J.i 20+1)).toNat<((X.R.length:Int) - J.i 20).toNat;omega
 .intro hpc N4 a4 w4 M4;have q:=hpc.1;rw[y9,A7]at q;change ¬J.i 20<((J.c 2).length:Int)at q;have hk:=I.hk;obtain rfl:k=X.R.length:=by omega
  refine bq3 (p:=[1,1]) eB7 eB8 ?_;have I5:∀ u,OI1 X X.R.length { J.L5 N4 []with u:=u }:=fun u=>⟨⟨I.e.g,I.e.f,I.e.o,I.e.c0,I.e.c1,I.e.c2⟩,I.u,I.hk,I.i20,I.i19,I.c5⟩
  obtain⟨u5,N5,M5⟩:=Sy.Md.aL7 M4 (ea4 has) (fun u=>(I5 u).cxB B.o (fun t ht=>by cases ht));exact eD1 B (I5 u5) M5
end Go.Proofs.YtnlcpcmdlcakgaaGreat
