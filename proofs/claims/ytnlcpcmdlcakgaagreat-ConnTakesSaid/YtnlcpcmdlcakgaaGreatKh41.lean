/- A part of the proof that a connection answers as the document says: Co1 Co2. -/
import Derived.Test.YtnlcpcmdlcakgaaGreatKh35
set_option maxRecDepth 100000
set_option maxHeartbeats 4000000
set_option linter.unusedVariables false
set_option linter.unusedSimpArgs false
set_option linter.unusedSectionVars false
open Go.Proofs.Tryz
namespace Go.Proofs.YtnlcpcmdlcakgaaGreat
open Go.RowKit Sy
def inS:List Sy.Spec:=cQ7::af6 seG::af6 syG::af6 akG::af6 acG::af6 taG::pcS
def sgW:List Bd:=[⟨.iv 0,0,4294967295⟩,⟨.iv 1,-9223372036854775808,9223372036854775807⟩,⟨.iv 2,0,4294967295⟩,⟨.iv 3,-9223372036854775808,9223372036854775807⟩,⟨.iv 4,0,4294967295⟩,⟨.iv 5,0,4294967295⟩,⟨.iv 6,-9223372036854775808,9223372036854775807⟩,⟨.iv 7,-9223372036854775808,9223372036854775807⟩,⟨.len l7,0,9223372036854775807⟩]
def mrB:List Bd:=[⟨L7 j6,0,1099511627760⟩,⟨A3,0,1152921504606846975⟩]
def U2:Tm:= .tb qb9 j9 (zI m8 (.tb qb9 m9 (zI n7 (.tb qb9 n8 (.tb qb9 l8 (.tb qb4 o9 (.tb qb4 (.bv 1) (.tb qb4 (.bv 2) (.tb qb4 (.bv 3) (zI p7 (zI o8 (.tb (.cons .str) l7 qao i9))) i9) i9) i9) i9) i9) i9)) i9)) i9
abbrev qa1:Tm:= .ap 103 U2 i9 i9
abbrev qbw:Tm:= .ap 121 qat i9 U2
abbrev qcg:Tm:= .eq qa1 i9
abbrev qc1:Tm:= .ap 120 (.ap 92 o6 (.ap 92 (.il 18) (.ap 91 s8 (.ap 122 (.ap 92 o6 qbw l6) l9 i9) (.il 3)) l6) l6) i9 i9
abbrev qdk:Tm:= .ap 120 (.ap 92 o6 (.ap 91 (.il 25) (.ap 91 s8 qbw u0) (.ap 90 (.il 24) qbw i9)) l6) i9 i9
abbrev qe2:Tm:= .le i9 (.sub (.ap 90 (.il 26) qbw i9) (.ap 90 (.il 24) qbw i9))
abbrev qe7:SV:= .one (.c (.int .i64 qa1))
def ah3:Tm:= .tb qb9 j9 (zI m8 (.tb qb9 m9 (zI n7 (.tb qb9 n8 (.tb qb9 l8 (.tb qb4 o9 (.tb qb4 (.bv 1) (.tb qb4 (.bv 2) (.tb qb4 (.bv 3) (zI p7 (zI o8 (.tb (.cons .str) l7 (zI w9 qao) i9))) i9) i9) i9) i9) i9) i9)) i9)) i9
def kSl:Tm:= .add qda (.ite (.bv 2) l9 i9)
def kWt:Tm:= .md (.add k7 (.md kNx qca)) qca 
def kFi:Tm:= .ap 101 n8 kSl (.tb qax kWt (.tb qax (.sub o7 (.ap 131 j5 k29 i9)) qao i9) i9)
def kCv:Tm:= .ap 92 o6 j8 l6
abbrev qd8:Tm:= .tb .app j6 (.ap 125 kCv i9 ah3) i9
abbrev qeb:Tm:= .tb .app j6 (.ap 125 kCv i9 U2) i9
abbrev qe1:Tm:= .ap 120 kCv i9 i9
def a79:Tm:= .ap 123 kCv i9 ah3
abbrev qcs:Tm:= .ap 92 o6 a79 l6
def kEr:Tm:= .ap 103 U2 i9 i9
abbrev qfs:Tm:= .eq kEr i9
def U6:Tm:= .and (.eq j9 k2) (.eq m8 k3)
def W6:Tm:= .and (.eq m9 k0) (.eq n7 k1)
def cP3(has:Bool):Cx:=⟨(V5 has sgW).bs,[.not qfs]⟩
def aZ5(has:Bool)(l:List Tm):Cx:=⟨(V5 has (mrB++sgB)).bs, .eq kEr i9::l⟩
theorem df0:rnC prog f23 inS [.one (.agg W9)] false (cP3 false)=some [(.ret qe7 j8 (qhb) j5 j6 [(.not qcg)])]:=by kernel_rfl
theorem de9:rnC prog f23 inS [.one (.agg W9)] true (cP3 true)=some [(.ret qe7 j8 (qhd) j5 j6 [(.not qcg)])]:=by kernel_rfl
theorem df4:rnC prog f23 inS [.one (.agg W9)] false (aZ5 false [.not U6])=some [(.ret qcj j8 (qhb) j5 j6 [qcg,(.not U6)])]:=by kernel_rfl
theorem df3:rnC prog f23 inS [.one (.agg W9)] true (aZ5 true [.not U6])=some [(.ret qcj j8 (qhd) j5 j6 [qcg,(.not U6)])]:=by kernel_rfl
theorem df2:rnC prog f23 inS [.one (.agg W9)] false (aZ5 false [U6, .not W6])=some [(.ret qcj j8 (qhb) j5 j6 [qcg,U6,(.not W6)])]:=by kernel_rfl
theorem df1:rnC prog f23 inS [.one (.agg W9)] true (aZ5 true [U6, .not W6])=some [(.ret qcj j8 (qhd) j5 j6 [qcg,U6,(.not W6)])]:=by kernel_rfl
theorem de2:rnC prog f23 inS [.one (.agg W9)] false (aZ5 false [U6,W6, .eq k4 i9])=some [(.ret qbu j8 (qhb) j5 j6 [qcg,U6,W6,qaw])]:=by kernel_rfl
theorem de1:rnC prog f23 inS [.one (.agg W9)] true (aZ5 true [U6,W6, .eq k4 i9])=some [(.ret qbu j8 (qhd) j5 j6 [qcg,U6,W6,qaw])]:=by kernel_rfl
abbrev qi3:List Tm:=[.eq qa1 i9,U6,W6,.not qaw,.eq k4 l9]
abbrev waY:List (Tq8 Cm):=[.l (.ret qad qbr (qhb) j5 j6)]
abbrev waE:List (Tq8 Cm):=[.d (.bv 3),.l (.ret qad qbr (qhb) j5 qbc)]++waY++[.b (.bv 3)]
theorem de8:rnC prog f23 inS [.one (.agg W9)] false (aZ5 false [U6,W6, .not qaw, .eq k4 l9])=some (fq8 ([.b (.bv 1),.b qg3,.b (.eq y5 i9)]++waE++[.l (.ret qad qes (qhb) j5 j6),.b o9,.l (.ret qad qc1 (qhd) qbx j6)]++waY++waE++waY++[.b o9,.l (.ret qad qdk (qhd) qbx j6)]++waY) [(qi3)]):=by kernel_rfl
abbrev qi4:List Tm:=[.eq qa1 i9,U6,W6,.not qaw,.not qb8,.eq k5 i9]
abbrev waV:List (Tq8 Cm):=[.l (.ret qad qa2 (qhd) j5 j6)]
theorem de7:rnC prog f23 inS [.one (.agg W9)] true (aZ5 true [U6,W6, .not qaw, .not qb8, .eq k5 i9])=some (fq8 ([.d kFi,.d k18,.b qbg,.b (.bv 2),.l (.ret qad (.ap 120 (.ap 92 o6 (.ap 92 (.il 18) qgc (.not (.bv 3))) l6) i9 i9) (qhd) j5 j6),.l (.ret qad qef (qhd) j5 j6),.l (.ret qad qef (qhd) j5 j6),.b qbg,.b (.bv 2),.l (.ret qad (.ap 120 (.ap 92 o6 (.ap 92 (.il 18) qgc l6) l6) i9 i9) (qhd) j5 j6)]++waV++waV++[.b (.bv 3),.b (.eq n8 kWt),.b qbg,.l (.ret qad qfx (qhd) j5 j6),.l (.ret qad qev (qhd) j5 j6)]++waV++[.b o9]++waV++[.b (.bv 1),.b (.ap 124 kCv i9 ah3),.l (.ret qad (.ap 120 (.ap 92 o6 (.ap 126 qcs j5 ah3) l6) i9 i9) (qhd) (.ap 127 qcs j5 ah3) qd8),.l (.ret qad (.ap 120 qcs i9 i9) (qhd) j5 qd8),.l (.ret qad qe1 (qhd) j5 j6)]) [(qi4)]):=by kernel_rfl
theorem bV2{J:Env}(hf:J.f=cnF)(Y y z:Tm):B4 J (.ap 120 Y y z)=(B4 J Y).F6:=by
 unfold B4;rw[F3 hf];exact U7 _
theorem bV1{J:Env}(hf:J.f=cnF)(Y y z:Tm):B4 J (.ap 121 Y y z)=(B4 J Y).syn (W5 (hd (u9 J z))):=by
 unfold B4;rw[F3 hf];exact U7 _
theorem eM7{J:Env}(hf:J.f=cnF)(Y y z:Tm):B4 J (.ap 123 Y y z)=(B4 J Y).Z4 (W5 (hd (u9 J z))) (z9 (hd (u9 J z)) 13):=by
 unfold B4;rw[F3 hf];exact U7 _
theorem eM6{J:Env}(hf:J.f=cnF)(Y L z:Tm):B4 J (.ap 126 Y L z)=(B4 J Y).aA5 (u9 J L).c (W5 (hd (u9 J z))) (z9 (hd (u9 J z)) 13):=by
 unfold B4;rw[F3 hf];exact U7 _
theorem aU8{J:Env}(hf:J.f=cnF){Y y z:Tm}{Z:Cn}{b:Bool}(hY:B4 J Y=Z)(hb:Z.has=b):({ E6 J (B4 J (.ap 120 (.ap 92 o6 Y (.bl b)) y z)) [⟨28, .bl b⟩]with bg:=Z.F6.bg }:Cn)=Z.F6:=by
 rw[bV2 hf,ac4 hf (by rw[hY];exact hb),hY];show({ Z7 Z.F6 28 (u9 J (.bl b))with bg:=Z.F6.bg }:Cn)=Z.F6;rw[aC1 (by rw[(aG8 Z).2];exact hb)]
theorem aH5{X:Cs}{J:Env}{b:Bool}(hb:X.c.has=b):({ E6 J X.c [⟨28, .bl b⟩]with bg:=X.c.bg }:Cn)=X.c:=by
 show({ Z7 X.c 28 (u9 J (.bl b))with bg:=X.c.bg }:Cn)=X.c;rw[aC1 hb]
section
variable(X:Cs)(s:Sg)
theorem bt0:(u9 (sgF X s) qa1).i=Cn.err s:=rfl
theorem aL2:((u9 (sgF X s) U6).b=true)=(s.fa=X.c.ra/\s.fp=X.c.rp):=by
 unfold U6;simp only[F4,A9,F0,kdA,sf0,sf1]
theorem aT2:((u9 (sgF X s) W6).b=true)=(s.ta=X.c.la/\s.tp=X.c.lp):=by
 unfold W6;simp only[F4,A9,F0,kdA,sf2,sf3]
theorem bX8:(u9 (sgF X s) kWt).i=X.c.a22 X.L:=by
 show(X.c.irs+Z8 X.L X.c.rd X.c.fin % 4294967296) % 4294967296=(X.c.irs+Z8 X.L X.c.rd X.c.fin) % 4294967296;omega
theorem eQ5:(u9 (sgF X s) kSl).i=s.len:=by
 unfold Sg.len kSl;rw[z7,z7,A8,aw0,aw0];rfl
theorem bs9:(u9 (sgF X s) kFi).b=X.c.bU9 X.L s:=by
 show aO2 s.sq (u9 (sgF X s) kSl).i (u9 (sgF X s) kWt).i (X.c.bU4 X.L)=aO2 s.sq s.len (X.c.a22 X.L) (X.c.bU4 X.L);rw[eQ5,bX8]
theorem dr8:W5 (hd (u9 (sgF X s) ah3))=s:=rfl
theorem z_g:W5 (hd (u9 (sgF X s) U2))=s:=rfl
theorem dJ5:z9 (hd (u9 (sgF X s) ah3)) 13=X.c.K8 X.L s:=rfl
end
section
variable{X:Cs}{s:Sg}(hh:X.c.has=true)
include hh
theorem bJ6:B4 (sgF X s) kCv=X.c:=by
 unfold kCv;rw[ac4 (I8 X s) bO,V4]
theorem cP0:B4 (sgF X s) a79=X.c.Z4 s (X.c.K8 X.L s):=by
 unfold a79;rw[eM7 (I8 X s),bJ6 hh,dr8,dJ5]
theorem eQ9:(u9 (sgF X s) (.ap 124 kCv i9 ah3)).b=X.c.aE9 s (X.c.K8 X.L s):=by
 have e:=bJ6 (s:=s) hh;unfold B4 at e;rw[F3 (I8 X s)];show(R7 (hd (u9 (sgF X s) kCv))).aE9 _ _=_;rw[e];rfl
theorem dN3:rsL (u9 (sgF X s) qd8).c=X.R++X.c.aC5 s:=by
 have e:=bJ6 (s:=s) hh;unfold B4 at e;show rsL (Y3 X.R++(u9 (sgF X s) (.ap 125 kCv i9 ah3)).c)=_;rw[F3 (I8 X s)];show rsL (Y3 X.R++Y3 ((R7 (hd (u9 (sgF X s) kCv))).aC5 _))=_;rw[e];have:Y3 X.R++Y3 (X.c.aC5 s)=Y3 (X.R++X.c.aC5 s):=by unfold Y3;rw[bb]
 exact(congrArg rsL this).trans (A4 _)
theorem ci5:B4 (sgF X s) qcs =X.c.Z4 s (X.c.K8 X.L s):=by
 rw[ac4 (I8 X s) (by rw[cP0 hh];exact(aO0 _ _ _).2.trans hh),cP0 hh]
theorem eQ3:B4 (sgF X s) (.ap 126 qcs j5 ah3)=(X.c.Z4 s (X.c.K8 X.L s)).aA5 X.L s (X.c.K8 X.L s):=by
 rw[eM6 (I8 X s),ci5 hh,dr8,dJ5];rfl
theorem eQ4:(u9 (sgF X s) (.ap 127 qcs j5 ah3)).c=(X.c.Z4 s (X.c.K8 X.L s)).aA4 X.L s (X.c.K8 X.L s):=by
 have e:=ci5 (s:=s) hh;unfold B4 at e;rw[F3 (I8 X s)];show(R7 (hd (u9 (sgF X s) qcs))).aA4 _ _ _=_;rw[e];rfl
end
theorem eB1{J:Env}(E:CnEnv J):∀ q∈inS,q.Ok prog J:=by
 intro q hq;unfold inS at hq;rcases aa.1 hq with rfl|hq
 .exact b08 E
 rcases aa.1 hq with rfl|hq
 .exact bv8 E
 rcases aa.1 hq with rfl|hq
 .exact dt1 E
 rcases aa.1 hq with rfl|hq
 .exact cl7 E
 rcases aa.1 hq with rfl|hq
 .exact eF0 E
 rcases aa.1 hq with rfl|hq
 .exact ds9 E
 .exact aR0 E q hq
theorem an0{w:World}{g:Nat}{a:Pa}{X:Cs}(W:PcW w g a X){has:Bool}(hh:X.c.has=has){s:Sg}{cx:Cx}(hcx:cx.ok (sgF X s)){ys:List Cm}
 (hrun:rnC prog f23 inS [.one (.agg W9)] has cx=some ys) {v:Value} {X':Cs}
 (hR:aC6 (Cm.bI1 (sgF X s) X.c (bd9 v X')) ys):Calls prog 23 #[.pointer (some ⟨g,0,none⟩),sgV s] w (F7 fun v' w'=>v'=v/\aS4 w w' g (X4 a g has) X'):=
 aA0 (is:=[s.fa,s.fp,s.ta,s.tp,s.sq,s.ak,s.win,s.mss]) (bs:=[s.syn,s.hak,s.fin,s.rst]) (ss:=[s.body]) (eB1 (L6 ..)) func23 rfl hrun W hh hcx hR rfl
theorem am9{c:Cn}{s:Sg}(h:c.inE s≠0)(L:Rws):c.inC L s=c/\c.inL L s=L/\c.inR L s=[]:=by
 unfold Cn.inC Cn.inL Cn.inR;rw[if_pos h,if_pos h,if_pos h];exact⟨rfl,rfl,rfl⟩
theorem c06{c:Cn}{s:Sg}(h:c.inE s=0)(h1:c.st=1)(L:Rws):c.inC L s=(c.aI6 s).F6/\c.inL L s=c.aF5 L s/\c.inR L s=c.aC7 s:=by
 unfold Cn.inC Cn.inL Cn.inR;simp only[h,h1,ne_eq,aJ,if_false,if_true,and_self]
theorem cP2{c:Cn}{s:Sg}(h:c.inE s=0)(h1:¬c.st=1)(L:Rws):c.inC L s=(c.aj9 L s).F6/\c.inL L s=c.ac3 L s/\c.inR L s=c.aR5 L s:=by
 unfold Cn.inC Cn.inL Cn.inR;simp only[h,h1,ne_eq,aJ,if_false,and_self]
theorem bY2{c:Cn}{s:Sg}(h:¬Cn.err s=0):c.inE s=Cn.err s:=by unfold Cn.inE;rw[if_pos h]
theorem dO2{c:Cn}{s:Sg}(h:Cn.err s=0)(h1:¬(s.fa=c.ra/\s.fp=c.rp)):c.inE s=6:=by unfold Cn.inE;rw[if_neg (fun q=>q h),if_pos (fun q=>h1 ⟨q.1,q.2.1⟩)]
theorem dO1{c:Cn}{s:Sg}(h:Cn.err s=0)(h1:¬(s.ta=c.la/\s.tp=c.lp)):c.inE s=6:=by unfold Cn.inE;rw[if_neg (fun q=>q h),if_pos (fun q=>h1 q.2.2)]
theorem dO0{c:Cn}{s:Sg}(h:Cn.err s=0)(h1:s.fa=c.ra/\s.fp=c.rp)(h2:s.ta=c.la/\s.tp=c.lp)(h3:c.st=0):c.inE s=10:=by unfold Cn.inE;rw[if_neg (fun q=>q h),if_neg (fun q=>q ⟨h1.1,h1.2,h2⟩),if_pos h3]
theorem bt1{c:Cn}{s:Sg}(h:Cn.err s=0)(h1:s.fa=c.ra/\s.fp=c.rp)(h2:s.ta=c.la/\s.tp=c.lp)(h3:¬c.st=0):c.inE s=0:=by unfold Cn.inE;rw[if_neg (fun q=>q h),if_neg (fun q=>q ⟨h1.1,h1.2,h2⟩),if_neg h3]
theorem cy3{c:Cn}{L:Rws}{s:Sg}(h:c.bU9 L s=false):c.aj9 L s=c.aj8 s/\c.ac3 L s=L/\c.aR5 L s=[]:=by
 unfold Cn.aj9 Cn.ac3 Cn.aR5 Cn.ay3;simp[h]
theorem dz7{c:Cn}{L:Rws}{s:Sg}(h:c.bU9 L s=true)(h1:s.rst=true)(h2:s.sq=c.a22 L):c.aj9 L s=(if c.st=9 then{ c with st:=0 }else{ c with st:=0,why:=12 })/\c.ac3 L s=L/\c.aR5 L s=[]:=by
 unfold Cn.aj9 Cn.ac3 Cn.aR5 Cn.ay3;simp[h,h1,h2]
theorem dz6{c:Cn}{L:Rws}{s:Sg}(h:c.bU9 L s=true)(h1:¬(s.rst=true/\s.sq=c.a22 L))(h2:s.rst=true\/s.syn=true):c.aj9 L s= { c with owed:=true }/\c.ac3 L s=L/\c.aR5 L s=[]:=by
 unfold Cn.aj9 Cn.ac3 Cn.aR5 Cn.ay3;simp[h,h1,h2]
theorem dz5{c:Cn}{L:Rws}{s:Sg}(h:c.bU9 L s=true)(h1:s.rst=false)(h2:s.syn=false)(h3:s.hak=true):c.aj9 L s=(if c.aE9 s (c.K8 L s)then(c.Z4 s (c.K8 L s)).aA5 L s (c.K8 L s)else c.Z4 s (c.K8 L s))/\c.ac3 L s=(if c.aE9 s (c.K8 L s)then(c.Z4 s (c.K8 L s)).aA4 L s (c.K8 L s)else L)/\c.aR5 L s=c.aC5 s:=by
 unfold Cn.aj9 Cn.ac3 Cn.aR5 Cn.ay3;simp[h,h1,h2,h3]
theorem dz4{c:Cn}{L:Rws}{s:Sg}(h:c.bU9 L s=true)(h1:s.rst=false)(h2:s.syn=false)(h3:s.hak=false):c.aj9 L s=c/\c.ac3 L s=L/\c.aR5 L s=[]:=by
 unfold Cn.aj9 Cn.ac3 Cn.aR5 Cn.ay3;simp[h,h1,h2,h3]
theorem bE5(c:Cn)(s:Sg):(c.aj8 s).has=c.has:=by unfold Cn.aj8;split<;>rfl
structure StX(c:Cn):Prop where
 one:c.st=1->c.has=false
 two:¬c.st=0->¬c.st=1->c.has=true
 why:¬c.st=0->c.why=0
structure MrX(X:Cs):Prop where
 r:X.R.length<=1099511627760
 s:X.c.same<=1152921504606846975
theorem eA2{X:Cs}{is:List Int}{bs:List Bool}{ss:List ByteArray}(h:MrX X)(hr:RgX X.c):X5 (H8 X is bs ss) mrB:=by
 have h1:=h.r;have h2:=h.s;have h3:=hr.r16;refine Z6 ⟨⟨?_,?_⟩,⟨?_,?_⟩,trivial⟩
 .show(0:Int)<=((Y3 X.R).length:Int);omega
 .show((Y3 X.R).length:Int)<=1099511627760;rw[aT8];omega
 .show 0<=X.c.same;omega
 .exact h2
theorem bW1{X:Cs}{s:Sg}(hs:SgAny s):X5 (sgF X s) sgW:=by
 have hs8:(0:Int)<=(s.body.size:Int)/\(s.body.size:Int)<=9223372036854775807:=by have:=hs.h8;omega
 exact Z6 ⟨hs.h0,hs.h1,hs.h2,hs.h3,hs.h4,hs.h5,hs.h6,hs.h7,hs8,trivial⟩
def InT(w:World)(g:Nat)(a:Pa)(X:Cs)(s:Sg):Prop:=Calls prog 23 #[.pointer (some ⟨g,0,none⟩),sgV s] w (F7 fun v' w'=>v'= .int .i64 (X.c.inE s)/\aS4 w w' g (X4 a g X.c.has) ⟨X.c.inC X.L s,X.c.inL X.L s,X.R++X.c.inR X.L s⟩)
section
variable{w:World}{g:Nat}{a:Pa}{X:Cs}(W:PcW w g a X)(hz:SzX X)(hr:RgX X.c)(hm:MrX X){s:Sg}(hs:SgAny s)
include W hz hr hm hs
omit hm in
theorem eB0(h:¬Cn.err s=0):InT w g a X s:=by
 unfold InT;obtain⟨e1,e2,e3⟩:=am9 (c:=X.c) (s:=s) (by rw[bY2 h];exact h) X.L;rw[e1,e2,e3,bY2 h,ao];cases hh:X.c.has with
 | false=>
   refine an0 W hh (cxF (Z1 hh hz hr (bW1 hs)).bs (a73 (l:=[.not qfs]) ?_)) df0 ⟨fun hpc=>⟨fun N=>rfl,aH5 hh,fun _=>rfl,A4 _⟩,trivial⟩;simp only[A6,y9,A9,A0,and_true];exact h
 | true=>
   refine an0 W hh (cxF (Z1 hh hz hr (bW1 hs)).bs (a73 (l:=[.not qfs]) ?_)) de9 ⟨fun hpc=>⟨fun N=>rfl,aH5 hh,fun _=>rfl,A4 _⟩,trivial⟩;simp only[A6,y9,A9,A0,and_true];exact h
omit W in
theorem aM2(h:Cn.err s=0){has:Bool}(hh:X.c.has=has){l:List Tm}(hl:A6 (sgF X s) l):(aZ5 has l).ok (sgF X s):=
 cxF (Z1 hh hz hr (aH3 (eA2 hm hr) (bW2 (cP4 hs h)))).bs (a73 (l:= .eq kEr i9::l) ⟨by rw[A9];exact h,hl⟩)
theorem eR5(h:Cn.err s=0)(h1:¬(s.fa=X.c.ra/\s.fp=X.c.rp)):InT w g a X s:=by
 unfold InT;have e0:=dO2 h h1;obtain⟨e1,e2,e3⟩:=am9 (c:=X.c) (s:=s) cd X.L;rw[e1,e2,e3,e0,ao];cases hh:X.c.has with
 | false=>
   refine an0 W hh (aM2 hz hr hm hs h hh (l:=[.not U6]) ?_) df4 ⟨fun hpc=>⟨fun N=>rfl,aH5 hh,fun _=>rfl,A4 _⟩,trivial⟩;simp only[A6,y9,aL2,and_true];exact h1
 | true=>
   refine an0 W hh (aM2 hz hr hm hs h hh (l:=[.not U6]) ?_) df3 ⟨fun hpc=>⟨fun N=>rfl,aH5 hh,fun _=>rfl,A4 _⟩,trivial⟩;simp only[A6,y9,aL2,and_true];exact h1
theorem eR4(h:Cn.err s=0)(h0:s.fa=X.c.ra/\s.fp=X.c.rp)(h1:¬(s.ta=X.c.la/\s.tp=X.c.lp)):InT w g a X s:=by
 unfold InT;have e0:=dO1 h h1;obtain⟨e1,e2,e3⟩:=am9 (c:=X.c) (s:=s) cd X.L;rw[e1,e2,e3,e0,ao];cases hh:X.c.has with
 | false=>
   refine an0 W hh (aM2 hz hr hm hs h hh (l:=[U6, .not W6]) ?_) df2 ⟨fun hpc=>⟨fun N=>rfl,aH5 hh,fun _=>rfl,A4 _⟩,trivial⟩;simp only[A6,y9,aL2,aT2,and_true];exact⟨h0,h1⟩
 | true=>
   refine an0 W hh (aM2 hz hr hm hs h hh (l:=[U6, .not W6]) ?_) df1 ⟨fun hpc=>⟨fun N=>rfl,aH5 hh,fun _=>rfl,A4 _⟩,trivial⟩;simp only[A6,y9,aL2,aT2,and_true];exact⟨h0,h1⟩
theorem eR3(h:Cn.err s=0)(h0:s.fa=X.c.ra/\s.fp=X.c.rp)(h1:s.ta=X.c.la/\s.tp=X.c.lp)(h2:X.c.st=0):InT w g a X s:=by
 unfold InT;have e0:=dO0 h h0 h1 h2;obtain⟨e1,e2,e3⟩:=am9 (c:=X.c) (s:=s) cd X.L;rw[e1,e2,e3,e0,ao];cases hh:X.c.has with
 | false=>
   refine an0 W hh (aM2 hz hr hm hs h hh (l:=[U6,W6, .eq k4 i9]) ?_) de2 ⟨fun hpc=>⟨fun N=>rfl,aH5 hh,fun _=>rfl,A4 _⟩,trivial⟩;simp only[A6,A9,A0,aL2,aT2,kdA,and_true];exact⟨h0,h1,h2⟩
 | true=>
   refine an0 W hh (aM2 hz hr hm hs h hh (l:=[U6,W6, .eq k4 i9]) ?_) de1 ⟨fun hpc=>⟨fun N=>rfl,aH5 hh,fun _=>rfl,A4 _⟩,trivial⟩;simp only[A6,A9,A0,aL2,aT2,kdA,and_true];exact⟨h0,h1,h2⟩
theorem eR2(h:Cn.err s=0)(h0:s.fa=X.c.ra/\s.fp=X.c.rp)(h1:s.ta=X.c.la/\s.tp=X.c.lp)(h2:X.c.st=1)(hh:X.c.has=false):InT w g a X s:=by
 unfold InT;have e0:=bt1 h h0 h1 U;obtain⟨e1,e2,e3⟩:=c06 e0 h2 X.L;rw[e1,e2,e3,e0,hh];refine an0 W hh (aM2 hz hr hm hs h hh (l:=[U6,W6, .not qaw, .eq k4 l9]) ?_) de8 ⟨?_,?_,?_,?_,?_,?_,?_,?_,?_,?_,trivial⟩
 .simp only[A6,A9,y9,A0,aL2,aT2,kdA,and_true];exact⟨h0,h1,by omega,h2⟩
 all_goals
  intro hpc;replace hpc:A6 (sgF X s) _:=hpc;simp only[A6,tmA,F8,kdA,bt0,aL2,aT2,bX8,bs9,sf0,sf1,sf2,sf3,sf4,sf5,sf6,sg0,sg1,sg2,sg3,eH2,and_true]at hpc
  (repeat(obtain⟨_,hpc⟩:=hpc))
  clear hpc;try simp only[aQ]at*
  first
  | (have e:X.c.aI6 s=X.c/\X.c.aF5 X.L s=X.L/\X.c.aC7 s=[]:=by
      unfold Cn.aI6 Cn.aF5 Cn.aC7 Cn.ag5;simp[*]
     rw[e.1,e.2.1,e.2.2,ao];exact⟨fun N=>rfl,aU8 (I8 X s) (V4 ..) hh,fun _=>rfl,A4 _⟩)
  | (have e:X.c.aI6 s=X.c/\X.c.aF5 X.L s=X.L/\X.c.aC7 s=[s.ak]:=by
      unfold Cn.aI6 Cn.aF5 Cn.aC7 Cn.ag5;simp[*]
     rw[e.1,e.2.1,e.2.2];exact⟨fun N=>rfl,aU8 (I8 X s) (V4 ..) hh,fun _=>rfl,aY0 X s.ak⟩)
  | (have e:X.c.aI6 s= { X.c with st:=0,why:=11 }/\X.c.aF5 X.L s=X.L/\X.c.aC7 s=[]:=by
      unfold Cn.aI6 Cn.aF5 Cn.aC7 Cn.ag5;simp[*]
     rw[e.1,e.2.1,e.2.2,ao];exact⟨fun N=>rfl,aU8 (I8 X s) (by rw[d_5 (I8 X s),d_4 (I8 X s),V4];rfl) hh,fun _=>rfl,A4 _⟩)
  | (have e:X.c.aI6 s= { (X.c.syn s).V7 1 with st:=3,owed:=true }/\X.c.aF5 X.L s=[]/\X.c.aC7 s=[]:=by
      unfold Cn.aI6 Cn.aF5 Cn.aC7 Cn.ag5;simp[*]
     rw[e.1,e.2.1,e.2.2,ao];refine⟨fun N=>rfl,aU8 (I8 X s) ?_ ((aR1 _ _).2.trans rfl),fun _=>rfl,A4 _⟩;have ev:B4 (sgF X s) qbw =X.c.syn s:=by
      rw[bV1 (I8 X s),ac4 (I8 X s) bO,V4,z_g]
     rw[bF2 (I8 X s),d_4 (I8 X s),bI2 (I8 X s),ac4 (I8 X s) (by rw[ev];rfl),ev];rfl)
  | (have e:X.c.aI6 s= { X.c.syn s with st:=2,cur:=X.c.una }/\X.c.aF5 X.L s=[]/\X.c.aC7 s=[]:=by
      unfold Cn.aI6 Cn.aF5 Cn.aC7 Cn.ag5;simp[*]
     rw[e.1,e.2.1,e.2.2,ao];refine⟨fun N=>rfl,aU8 (I8 X s) ?_ rfl,fun _=>rfl,A4 _⟩;have ev:B4 (sgF X s) qbw =X.c.syn s:=by
      rw[bV1 (I8 X s),ac4 (I8 X s) bO,V4,z_g]
     rw[aI3 (I8 X s),d_4 (I8 X s),af2 (I8 X s),ev];rfl)
theorem eR1(h:Cn.err s=0)(h0:s.fa=X.c.ra/\s.fp=X.c.rp)(h1:s.ta=X.c.la/\s.tp=X.c.lp)(h2:¬X.c.st=0)(h3:¬X.c.st=1)(hw:X.c.why=0)(hh:X.c.has=true):InT w g a X s:=by
 unfold InT;have e0:=bt1 h h0 h1 h2;obtain⟨e1,e2,e3⟩:=cP2 e0 h3 X.L;rw[e1,e2,e3,e0,hh];refine an0 W hh (aM2 hz hr hm hs h hh (l:=[U6,W6, .not qaw, .not qb8, .eq k5 i9]) ?_) de7 ?_
 .simp only[A6,A9,y9,A0,aL2,aT2,kdA,and_true];exact⟨h0,h1,h2,h3,hw⟩
 repeat'(first|exact V9|refine W0 ?_ ?_)
 all_goals
  intro hpc;replace hpc:A6 (sgF X s) _:=hpc;simp only[A6,tmA,F8,kdA,bt0,aL2,aT2,bX8,bs9,sf0,sf1,sf2,sf3,sf4,sf5,sf6,sg0,sg1,sg2,sg3,eQ9 hh,and_true]at hpc
  (repeat(obtain⟨_,hpc⟩:=hpc))
  clear hpc;try simp only[aQ]at*
 all_goals first
  | (have e:=cy3 (c:=X.c) (L:=X.L) (s:=s) bC
     rw[e.1,e.2.1,e.2.2,ao];refine⟨fun N=>rfl,aU8 (I8 X s) ?_ ((bE5 _ _).trans hh),fun _=>rfl,A4 _⟩;unfold Cn.aj8;simp only[bF2 (I8 X s),eD3 (I8 X s),d_4 (I8 X s),V4,z7,A0,kdA];simp[*];try rfl)
  | (have e:=dz7 (c:=X.c) (L:=X.L) (s:=s) bC bC bC
     rw[e.1,e.2.1,e.2.2,ao];first
     | rw[if_pos (show X.c.st=9 from by assumption)]
     | rw[if_neg (show ¬X.c.st=9 from by assumption)]
     refine⟨fun N=>rfl,aU8 (I8 X s) ?_ hh,fun _=>rfl,A4 _⟩;rw[d_5 (I8 X s),d_4 (I8 X s),V4];first
     | exact congrArg (fun v:Int=>({ X.c with st:=0,why:=v }:Cn)) hw.symm
     | rfl)
  | (have e:=dz6 (c:=X.c) (L:=X.L) (s:=s) bC (by simp[*]) (by simp[*])
     rw[e.1,e.2.1,e.2.2,ao];refine⟨fun N=>rfl,aU8 (I8 X s) ?_ hh,fun _=>rfl,A4 _⟩;rw[bF2 (I8 X s),V4];rfl)
  | (have e:=dz5 (c:=X.c) (L:=X.L) (s:=s) bC bC bC bC
     rw[e.1,e.2.1,e.2.2];first
     | (rw[if_pos (show X.c.aE9 s (X.c.K8 X.L s)=true from by assumption),if_pos (show X.c.aE9 s (X.c.K8 X.L s)=true from by assumption)]
        exact⟨fun N=>rfl,aU8 (I8 X s) (eQ3 hh) ((ao4 _ _ _ _).2.trans ((aO0 _ _ _).2.trans hh)),fun _=>eQ4 hh,dN3 hh⟩)
     | (have eb:¬X.c.aE9 s (X.c.K8 X.L s)=true:=by simp[*]
        rw[if_neg eb,if_neg eb];exact⟨fun N=>rfl,aU8 (I8 X s) (cP0 hh) ((aO0 _ _ _).2.trans hh),fun _=>rfl,dN3 hh⟩))
  | (have e:=dz4 (c:=X.c) (L:=X.L) (s:=s) bC bC bC bC
     rw[e.1,e.2.1,e.2.2,ao];exact⟨fun N=>rfl,aU8 (I8 X s) (V4 ..) hh,fun _=>rfl,A4 _⟩)
theorem c05(hS:StX X.c):InT w g a X s:=by
 by_cases h:Cn.err s=0
 .by_cases h0:s.fa=X.c.ra/\s.fp=X.c.rp
  .by_cases h1:s.ta=X.c.la/\s.tp=X.c.lp
   .by_cases h2:X.c.st=0
    .exact eR3 W hz hr hm hs h h0 h1 h2
    .by_cases h3:X.c.st=1
     .exact eR2 W hz hr hm hs h h0 h1 h3 (hS.one h3)
     .exact eR1 W hz hr hm hs h h0 h1 h2 h3 (hS.why h2) (hS.two h2 h3)
   .exact eR4 W hz hr hm hs h h0 h1
  .exact eR5 W hz hr hm hs h h0
 .exact eB0 W hz hr hs h
end
end Go.Proofs.YtnlcpcmdlcakgaaGreat
