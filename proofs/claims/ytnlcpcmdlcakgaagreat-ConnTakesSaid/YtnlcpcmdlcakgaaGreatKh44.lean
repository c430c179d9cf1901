/- A part of the proof that a connection answers as the document says: Cdb Cdc Cdd Cd6 Cd9 Cd8. -/
import Derived.Test.YtnlcpcmdlcakgaaGreatKh43
set_option maxRecDepth 100000
set_option maxHeartbeats 4000000
set_option linter.unusedVariables false
set_option linter.unusedSimpArgs false
set_option linter.unusedSectionVars false
open Go.Proofs.Tryz
namespace Go.Proofs.YtnlcpcmdlcakgaaGreat
open Go.RowKit Sy
abbrev qjf:List Tm:=[.not (.lt y5 kA),.not (.lt w6 kA),.eq kA w6,.eq qan i9,.lt kA y4,.not qeh]
theorem c61:rnD prog f64 dbS [.one (.agg W9)] true ⟨(V5 true sgB).bs,[qa4, .not qbk, .not (.lt y5 kA), .not (.lt w6 kA), .eq kA w6, .eq sgM i9, .lt kA y4, .not qeh]⟩=some (fq8 wae [((.eq k4 u0)::(.not qbk)::qjf)]):=by kernel_rfl
abbrev qjg:List (Nat × Tm):=[⟨4,(.il 5)⟩,⟨10,p7⟩,⟨11,w9⟩,⟨12,kA⟩,⟨16,qaj⟩,⟨19,l6⟩,⟨21,i9⟩,⟨28,l6⟩,⟨35,qai⟩,⟨36,qai⟩]
abbrev qjh:List (Nat × Tm):=[⟨4,s8⟩,⟨10,p7⟩,⟨11,w9⟩,⟨12,kA⟩,⟨16,qaj⟩,⟨19,l6⟩,⟨21,i9⟩,⟨28,l6⟩,⟨35,qai⟩,⟨36,qai⟩]
abbrev qji:List (Nat × Tm):=[⟨4,(.il 5)⟩,⟨16,qaj⟩,⟨19,l6⟩,⟨21,i9⟩,⟨28,l6⟩,⟨35,qai⟩,⟨36,qai⟩]
abbrev qjj:List (Nat × Tm):=[⟨4,s8⟩,⟨16,qaj⟩,⟨19,l6⟩,⟨21,i9⟩,⟨28,l6⟩,⟨35,qai⟩,⟨36,qai⟩]
abbrev qjk:List (Nat × Tm):=⟨4,(.il 5)⟩::⟨10,p7⟩::⟨11,w9⟩::⟨12,kA⟩::qiy
abbrev qjl:List (Nat × Tm):=⟨4,s8⟩::⟨10,p7⟩::⟨11,w9⟩::⟨12,kA⟩::qiy
abbrev qjm:List (Nat × Tm):=[⟨4,(.il 3)⟩,⟨10,p7⟩,⟨11,w9⟩,⟨12,kA⟩,⟨16,qaj⟩,⟨19,l6⟩,⟨21,i9⟩,⟨28,l6⟩,⟨35,qai⟩,⟨36,qai⟩]
abbrev qjn:List (Nat × Tm):=[⟨4,(.il 3)⟩,⟨16,qaj⟩,⟨19,l6⟩,⟨21,i9⟩,⟨28,l6⟩,⟨35,qai⟩,⟨36,qai⟩]
abbrev qjo:List (Nat × Tm):=⟨4,(.il 3)⟩::⟨10,p7⟩::⟨11,w9⟩::⟨12,kA⟩::qiy
abbrev qjp:List Tm:=[.not (.lt y5 kA),.not (.lt w6 kA),.eq kA w6,.eq qan i9,.lt kA y4,.eq p7 A2]
theorem c60:rnD prog f64 dbS [.one (.agg W9)] true ⟨(V5 true sgB).bs,[qa4, .not qbk, .not (.lt y5 kA), .not (.lt w6 kA), .eq kA w6, .eq sgM i9, .lt kA y4, .eq p7 A2]⟩=some (fq8 ([.b y6,.b qff]++wag++[.b qaf,.l (.ret qaa j8 (qjg) j5 j6),.l (.ret qaa j8 (qjh) j5 j6),.b qaf,.l (.ret qaa j8 (qji) j5 j6),.l (.ret qaa j8 (qjj) j5 j6),.b qaf,.l (.ret qaa j8 (qji) j5 j6),.l (.ret qaa j8 (qjj) j5 j6),.b qaf,.l (.ret qaa j8 (qjg) j5 j6),.l (.ret qaa j8 (qjh) j5 j6)]++wag++[.b qaf,.l (.ret qaa j8 (qjk) j5 j6),.l (.ret qaa j8 (qjl) j5 j6)]++waP++wa3++[.l (.ret qaa j8 (qjk) j5 j6),.l (.ret qaa j8 (qjl) j5 j6),.b qff]++wag++[.l (.ret qaa j8 (qjm) j5 j6),.l (.ret qaa j8 (qjn) j5 j6),.l (.ret qaa j8 (qjn) j5 j6),.l (.ret qaa j8 (qjm) j5 j6)]++wag++[.l (.ret qaa j8 (qjo) j5 j6),.l (.ret qaa j8 (qij) j5 j6),.l (.ret qaa j8 (qij) j5 j6),.l (.ret qaa j8 (qjo) j5 j6)]) [((.eq k4 u0)::(.not qbk)::qjp)]):=by kernel_rfl
abbrev qjq:List (Nat × Tm):=⟨4,(.il 9)⟩::⟨10,p7⟩::⟨11,w9⟩::⟨12,kA⟩::⟨17,qav⟩::qhd
abbrev wac:List (Tq8 Cm):=waZ++[.l (.ret qaa j8 (qi5) j5 j6),.b qa6,.l (.ret qaa j8 (qjq) j5 j6),.b qa5,.l (.ret qal j8 (qi7) j5 j6),.l (.ret qaa j8 (qi8) j5 j6),.l (.ret qaa j8 (qi8) j5 j6),.l (.ret qaa j8 (qi8) j5 j6)]
theorem c67:rnD prog f64 dbS [.one (.agg W9)] true ⟨(V5 true sgB).bs,[.not qa4, .not (.lt y5 kA), .not (.lt w6 kA), .eq kA w6, .not (.eq sgM i9)]⟩=some (fq8 (wag++wac++waa++wac) [(qim)]):=by kernel_rfl
theorem c66:rnD prog f64 dbS [.one (.agg W9)] true ⟨(V5 true sgB).bs,[.not qa4, .not (.lt y5 kA), .not (.lt w6 kA), .eq kA w6, .eq sgM i9, .not (.lt kA y4)]⟩=some (fq8 (wag++wac++waa++wac) [((.not qa4)::qje)]):=by kernel_rfl
theorem c65:rnD prog f64 dbS [.one (.agg W9)] true ⟨(V5 true sgB).bs,[.not qa4, .not (.lt y5 kA), .not (.lt w6 kA), .eq kA w6, .eq sgM i9, .lt kA y4, .not qeh]⟩=some (fq8 (wag++wac++waa++wac) [((.not qa4)::qjf)]):=by kernel_rfl
abbrev qjr:List (Nat × Tm):=[⟨4,(.il 9)⟩,⟨10,p7⟩,⟨11,w9⟩,⟨12,kA⟩,⟨16,qaj⟩,⟨17,qav⟩,⟨19,l6⟩,⟨21,i9⟩,⟨28,l6⟩,⟨35,qai⟩,⟨36,qai⟩]
abbrev qjw:List (Nat × Tm):=[⟨16,qaj⟩,⟨19,l6⟩,⟨21,i9⟩,⟨28,l6⟩,⟨35,qai⟩,⟨36,qai⟩]
abbrev qjt:List (Nat × Tm):=⟨10,p7⟩::⟨11,w9⟩::⟨12,kA⟩::qjw
abbrev qjs:List (Nat × Tm):=⟨4,i9⟩::qjt
abbrev qju:List (Nat × Tm):=[⟨4,(.il 9)⟩,⟨16,qaj⟩,⟨17,qav⟩,⟨19,l6⟩,⟨21,i9⟩,⟨28,l6⟩,⟨35,qai⟩,⟨36,qai⟩]
abbrev qjv:List (Nat × Tm):=⟨4,i9⟩::qjw
abbrev qjx:List (Nat × Tm):=⟨4,(.il 9)⟩::⟨10,p7⟩::⟨11,w9⟩::⟨12,kA⟩::⟨16,qaj⟩::⟨17,qav⟩::qhd
abbrev qjz:List (Nat × Tm):=⟨10,p7⟩::⟨11,w9⟩::⟨12,kA⟩::qiy
abbrev qjy:List (Nat × Tm):=⟨4,i9⟩::qjz
abbrev waL:List (Tq8 Cm):=waZ++[.l (.ret qaa j8 (qjg) j5 j6),.b qa6,.l (.ret qaa j8 (qjr) j5 j6),.b qa5,.l (.ret qal j8 (qjs) j5 j6),.l (.ret qaa j8 (qjt) j5 j6),.l (.ret qaa j8 (qjt) j5 j6),.l (.ret qaa j8 (qjt) j5 j6)]
abbrev waS:List (Tq8 Cm):=[.l (.ret qaa j8 (qji) j5 j6),.b qa6,.l (.ret qaa j8 (qju) j5 j6),.b qa5,.l (.ret qal j8 (qjv) j5 j6),.l (.ret qaa j8 (qjw) j5 j6),.l (.ret qaa j8 (qjw) j5 j6),.l (.ret qaa j8 (qjw) j5 j6)]
abbrev waG:List (Tq8 Cm):=waZ++waS++waZ
abbrev waM:List (Tq8 Cm):=waZ++[.l (.ret qaa j8 (qjk) j5 j6),.b qa6,.l (.ret qaa j8 (qjx) j5 j6),.b qa5,.l (.ret qal j8 (qjy) j5 j6),.l (.ret qaa j8 (qjz) j5 j6),.l (.ret qaa j8 (qjz) j5 j6),.l (.ret qaa j8 (qjz) j5 j6)]
theorem c64:rnD prog f64 dbS [.one (.agg W9)] true ⟨(V5 true sgB).bs,[.not qa4, .not (.lt y5 kA), .not (.lt w6 kA), .eq kA w6, .eq sgM i9, .lt kA y4, .eq p7 A2]⟩=some (fq8 ([.b qff]++wag++waL++waG++waS++waL++wag++waM++waz++[.l (.ret qal j8 (⟨4,i9⟩::qiy) j5 j6)]++wau++wa8++waz++[.l (.ret qal j8 (⟨4,i9⟩::qiy) j5 j6)]++wau++wa8++waM) [((.not qa4)::qjp)]):=by kernel_rfl
section
variable(X:Cs)(s:Sg)
theorem aE2:(u9 (sgF X s) kA).i=X.c.B5 s:=rfl
theorem aX1:(u9 (sgF X s) w9).i=X.c.K8 X.L s:=rfl
end
theorem kDu{X:Cs}{s:Sg}(h:X.c.B5 s=X.c.una):(u9 (sgF X s) qai).i=aC3 X.c.cm (X.c.cur - X.c.una):=by
 show aC3 X.c.cm (X.c.cur - X.c.B5 s)=_;rw[h]
theorem eC9{J:Env}(E:CnEnv J):∀ q∈dbS,q.Ok prog J:=by
 intro q hq;rcases aa.1 hq with rfl|hq
 .exact ck4 E
 .exact ao8 E q hq
theorem aO8{w:World}{g:Nat}{a:Da}{X:Cs}(W:DcW w g a X)(hz:SzX X)(hr:RgX X.c)(hh:X.c.has=true){s:Sg}(hs:SgIn s){l:List Tm}{ys:List Cm}
 (hrun:rnD prog f64 dbS [.one (.agg W9)] true ⟨(V5 true sgB).bs,l⟩=some ys) (hl:A6 (sgF X s) l) {v:Value} {X':Cs}
 (hR:aC6 (Cm.bI1 (sgF X s) X.c (aq1 v X')) ys):Calls prog 64 #[.pointer (some ⟨g,0,none⟩),sgV s] w (F7 fun v' w'=>v'=v/\aS6 w w' g (Y8 a g true) X'):=
 Y2 (is:=[s.fa,s.fp,s.ta,s.tp,s.sq,s.ak,s.win,s.mss]) (bs:=[s.syn,s.hak,s.fin,s.rst]) (ss:=[s.body]) (eC9 (L6 ..)) func64 rfl hrun W hh (cxF (Z1 hh hz hr (bW2 hs)).bs (a73 hl)) hR rfl
theorem U3{Z Z':Cn}{b:Bool}{L:Rws}{R:List Int}{u:Bn->Value}{c:Cn}{L':Rws}{R':List Int}(h:Z.aJ0=Z'/\Z.aP9=b)(hG:aq1 (.bool b) ⟨Z',L,R⟩ u c L' R'):aq1 (.bool Z.aP9) ⟨Z.aJ0,L,R⟩ u c L' R':=by
 rw[h.1,h.2];exact hG
section
variable{X:Cs}{s:Sg}(hh:X.c.has=true)
include hh
theorem zA0:B4 (sgF X s) qae =X.c.V7 (X.c.B5 s):=by
 rw[bI2 rfl,ac4 rfl (by rw[V4];exact hh),V4,aE2]
theorem zAv(v:Int):B4 (sgF X s) (.ap 122 (.ap 92 o6 (.ap 91 s8 j8 (.il v)) l6) kA i9)=(X.c.wSt v).V7 (X.c.B5 s):=by
 rw[bI2 rfl,ac4 rfl (by rw[y_4 rfl,V4];exact hh),y_4 rfl,V4,aE2];rfl
end
section
variable{w:World}{g:Nat}{a:Da}{X:Cs}(W:DcW w g a X)(hz:SzX X)(hr:RgX X.c)(hh:X.c.has=true){s:Sg}(hs:SgIn s)
include W hz hr hh hs
def aL0(w:World)(g:Nat)(a:Da)(X:Cs)(s:Sg):Prop:=Calls prog 64 #[.pointer (some ⟨g,0,none⟩),sgV s] w (F7 fun v' w'=>v'= .bool (X.c.aE9 s (X.c.K8 X.L s))/\aS6 w w' g (Y8 a g true) ⟨X.c.Z4 s (X.c.K8 X.L s),X.L,X.R++X.c.aC5 s⟩)
theorem eS9(h:X.c.Z2 s):aL0 w g a X s:=by
 unfold aL0;obtain⟨e1,e2,e3⟩:=Cn.cA7 h (X.c.K8 X.L s);rw[e1,e2,e3];have h2:X.c.st=2:=h.1;by_cases q:X.c.B5 s<1
 .refine aO8 W hz hr hh hs di7 ?_ ⟨?_,trivial⟩
  .simp only[A6,tmA,F8,kdA,aE2,and_true];exact⟨h2,q⟩
  .intro hpc;refine T9 (fun N=>rfl) ?_ (fun _=>rfl) (aY0 X s.ak);show E6 (sgF X s) X.c _=X.c;simp only[E6,svA,aC1 hh]
 .refine aO8 W hz hr hh hs di6 ?_ ⟨?_,trivial⟩
  .simp only[A6,tmA,F8,kdA,aE2,and_true];have:=h.2;omega
  .intro hpc;refine T9 (fun N=>rfl) ?_ (fun _=>rfl) (aY0 X s.ak);show E6 (sgF X s) X.c _=X.c;simp only[E6,svA,aC1 hh]
theorem eS8(h:¬X.c.Z2 s)(h2:X.c.snt<X.c.B5 s):aL0 w g a X s:=by
 unfold aL0;obtain⟨e1,e2,e3⟩:=Cn.cA6 h h2 (X.c.K8 X.L s);have h4:¬X.c.st=2:=fun q=>h ⟨q, .inr h2⟩
 rw[e1,e2,e3,ao,Cn.aj7 h4];refine aO8 W hz hr hh hs dj0 ?_ ⟨?_,trivial⟩
 .simp only[A6,tmA,F8,kdA,aE2,and_true];exact⟨h4,h2⟩
 .intro hpc;refine T9 (fun N=>rfl) ?_ (fun _=>rfl) (A4 _);show E6 (sgF X s) X.c _=_;simp only[E6,svA];rw[aC1 (b:=true) (by exact hh)];rfl
theorem eS7(h:¬X.c.Z2 s)(h2:¬X.c.snt<X.c.B5 s)(hy:¬X.c.st=0->X.c.why=0)(h3:¬X.c.una<X.c.B5 s)(h4:¬X.c.B5 s=X.c.una):aL0 w g a X s:=by
 unfold aL0;obtain⟨e1,e2,e3⟩:=Cn.aE8 h h2 (X.c.K8 X.L s);rw[e1,e2,e3,ao,Cn.cs6 h3 h4 (Cn.be2 _)];by_cases h5:X.c.st=2
 .have h6:¬X.c.B5 s<1:=fun q=>h ⟨h5, .inl q⟩
  refine aO8 W hz hr hh hs di4 ?_ ?_
  .simp only[A6,tmA,F8,kdA,aE2,and_true];exact⟨h5,h6,h2,h3,h4⟩
  repeat'(first|exact V9|refine W0 ?_ ?_)
  all_goals
   intro hpc;replace hpc:A6 (sgF X s) _:=hpc;simp only[A6,tmA,F8,kdA,aE2,sf6,aX1,q_4 (I8 X s),q_5 (I8 X s),aq7 (I8 X s),aq6 (I8 X s),af2 (I8 X s),aq5 (I8 X s),zA0 hh,zAv hh,and_true]at hpc
   (repeat(obtain⟨_,hpc⟩:=hpc))
   first
    | rw[Cn.ar7 h5 (by assumption)]
    | rw[Cn.ar8 h5 (by assumption)]
   (first|refine U3 (Cn.aN7 (by trivial)) ?_|refine U3 (Cn.aN6 (by trivial) (by trivial)) ?_|refine U3 (Cn.aN8 (by trivial) (by trivial) (by trivial)) ?_|refine dgiv4 (Cn.a4_7 (by trivial) (by trivial) (by trivial)) ?_|refine dgiv4 (Cn.a4_8 (by trivial) (by trivial) (by trivial)) ?_|refine dgiv4 (Cn.a4_o (by trivial) (by trivial) (by trivial) (by trivial) (by trivial)) ?_)
   refine T9 (fun N=>rfl) ?_ (fun _=>rfl) (A4 _);show E6 (sgF X s) X.c _=_;simp only[E6,svA];rw[aC1 (b:=true) (by exact hh)];rfl
 .rw[Cn.aj7 h5];refine aO8 W hz hr hh hs di8 ?_ ?_
  .simp only[A6,tmA,F8,kdA,aE2,and_true];exact⟨h5,h2,h3,h4⟩
  repeat'(first|exact V9|refine W0 ?_ ?_)
  all_goals
   intro hpc;replace hpc:A6 (sgF X s) _:=hpc;simp only[A6,tmA,F8,kdA,aE2,sf6,aX1,q_4 (I8 X s),q_5 (I8 X s),aq7 (I8 X s),aq6 (I8 X s),af2 (I8 X s),aq5 (I8 X s),zA0 hh,zAv hh,and_true]at hpc
   (repeat(obtain⟨_,hpc⟩:=hpc))
   (first|refine U3 (Cn.aN7 (by trivial)) ?_|refine U3 (Cn.aN6 (by trivial) (by trivial)) ?_|refine U3 (Cn.aN8 (by trivial) (by trivial) (by trivial)) ?_|refine U3 (Cn.ak2 (by trivial) (by trivial) (by trivial)) ?_|refine U3 (Cn.ak1 (by trivial) (by trivial) (by trivial)) ?_|refine U3 (Cn.ak0 (by trivial) (by trivial) (by trivial) (by trivial) (by trivial)) ?_)
   refine T9 (fun N=>rfl) ?_ (fun _=>rfl) (A4 _);show E6 (sgF X s) X.c _=_;simp only[E6,svA,z7,kdA,A0];rw[aC1 (b:=true) (by exact hh)]<;>first
    | rfl
    | (rw[hy (by omega)];done)
    | (rw[hy (by omega)];rfl)
    | (have e:=hy (by omega);rw[<-e])
theorem eS6(h:¬X.c.Z2 s)(h2:¬X.c.snt<X.c.B5 s)(hy:¬X.c.st=0->X.c.why=0)(h3:X.c.una<X.c.B5 s):aL0 w g a X s:=by
 unfold aL0;obtain⟨e1,e2,e3⟩:=Cn.aE8 h h2 (X.c.K8 X.L s);rw[e1,e2,e3,ao,Cn.cs7 h3 (Cn.be2 _)];have hA0:(X.c.V7 (X.c.B5 s)).has=true:=bn6 hh;have hA4:∀ v,((X.c.wSt v).V7 (X.c.B5 s)).has=true:=fun v=>bZ6 hh
 have hw0:(X.c.V7 (X.c.B5 s)).why=X.c.why/\(X.c.V7 (X.c.B5 s)).st=X.c.st:=az3 ..;have hw4:∀ v,((X.c.wSt v).V7 (X.c.B5 s)).why=X.c.why/\((X.c.wSt v).V7 (X.c.B5 s)).st=v:=fun v=>az3 ..
 by_cases h5:X.c.st=2
 .have h6:¬X.c.B5 s<1:=fun q=>h ⟨h5, .inl q⟩
  have hwy:X.c.why=0:=hy (by omega);refine aO8 W hz hr hh hs di5 ?_ ?_
  .simp only[A6,tmA,F8,kdA,aE2,and_true];exact⟨h5,h6,h2,h3⟩
  repeat'(first|exact V9|refine W0 ?_ ?_)
  all_goals
   intro hpc;replace hpc:A6 (sgF X s) _:=hpc;simp only[A6,tmA,F8,kdA,aE2,sf6,aX1,q_4 (I8 X s),q_5 (I8 X s),aq7 (I8 X s),aq6 (I8 X s),af2 (I8 X s),aq5 (I8 X s),zA0 hh,zAv hh,and_true]at hpc
   (repeat(obtain⟨_,hpc⟩:=hpc))
   first
    | rw[Cn.ar7 h5 (by assumption)]
    | rw[Cn.ar8 h5 (by assumption)]
   (first|refine U3 (Cn.aN7 (by trivial)) ?_|refine U3 (Cn.aN6 (by trivial) (by trivial)) ?_|refine U3 (Cn.aN8 (by trivial) (by trivial) (by trivial)) ?_|refine U3 (Cn.ak2 (by trivial) (by trivial) (by trivial)) ?_|refine U3 (Cn.ak1 (by trivial) (by trivial) (by trivial)) ?_|refine U3 (Cn.ak0 (by trivial) (by trivial) (by trivial) (by trivial) (by trivial)) ?_)
   refine T9 (fun N=>rfl) ?_ (fun _=>rfl) (A4 _);show E6 (sgF X s) (B4 (sgF X s) _) _=_;rw[zAv hh];simp only[E6,svA,z7,q_4 (I8 X s),q_5 (I8 X s),aq7 (I8 X s),aq6 (I8 X s),af2 (I8 X s),aq5 (I8 X s),zAv hh,kdA,A0];rw[aC1 (b:=true) (by exact hA4 _)]<;>first
    | rfl
    | (have e:=(hw4 4).1.trans hwy;rw[<-e];rfl)
    | (have e:=(hw4 3).1.trans hwy;rw[<-e];rfl)
 .rw[Cn.aj7 h5];refine aO8 W hz hr hh hs di9 ?_ ?_
  .simp only[A6,tmA,F8,kdA,aE2,and_true];exact⟨h5,h2,h3⟩
  repeat'(first|exact V9|refine W0 ?_ ?_)
  all_goals
   intro hpc;replace hpc:A6 (sgF X s) _:=hpc;simp only[A6,tmA,F8,kdA,aE2,sf6,aX1,q_4 (I8 X s),q_5 (I8 X s),aq7 (I8 X s),aq6 (I8 X s),af2 (I8 X s),aq5 (I8 X s),zA0 hh,zAv hh,and_true]at hpc
   (repeat(obtain⟨_,hpc⟩:=hpc))
   (first|refine U3 (Cn.aN7 (by trivial)) ?_|refine U3 (Cn.aN6 (by trivial) (by trivial)) ?_|refine U3 (Cn.aN8 (by trivial) (by trivial) (by trivial)) ?_|refine U3 (Cn.ak2 (by trivial) (by trivial) (by trivial)) ?_|refine U3 (Cn.ak1 (by trivial) (by trivial) (by trivial)) ?_|refine U3 (Cn.ak0 (by trivial) (by trivial) (by trivial) (by trivial) (by trivial)) ?_)
   refine T9 (fun N=>rfl) ?_ (fun _=>rfl) (A4 _);show E6 (sgF X s) (B4 (sgF X s) _) _=_;rw[zA0 hh];simp only[E6,svA,z7,q_4 (I8 X s),q_5 (I8 X s),aq7 (I8 X s),aq6 (I8 X s),af2 (I8 X s),aq5 (I8 X s),zA0 hh,kdA,A0];rw[aC1 (b:=true) (by exact hA0)]<;>first
    | rfl
    | (have e:=hw0.1.trans (hy (by omega));rw[<-e];rfl)
omit W in
theorem aS9:(u9 (sgF X s) sgM).i=s.len:=by
 unfold sgM;rw[bJ2 (cxF (Z1 hh hz hr (bW2 hs)).bs (fun t ht=>by cases ht))];rfl
theorem c72(h:¬X.c.Z2 s)(h2:¬X.c.snt<X.c.B5 s)(hy:¬X.c.st=0->X.c.why=0)(h3:X.c.B5 s=X.c.una)(h5:X.c.st=2)(hx:¬s.len=0):aL0 w g a X s:=by
 unfold aL0;obtain⟨e1,e2,e3⟩:=Cn.aE8 h h2 (X.c.K8 X.L s);rw[e1,e2,e3,ao];have hd:¬(s.len=0/\X.c.una<X.c.cur/\s.win=X.c.wnd):=fun q=>hx q.1
 have h7:¬X.c.una<X.c.B5 s:=by omega
 have h6:¬X.c.B5 s<1:=fun q=>h ⟨h5, .inl q⟩
 .refine aO8 W hz hr hh hs c63 ?_ ?_
  .simp only[A6,tmA,F8,kdA,aE2,aS9 hz hr hh hs,sf6,and_true];exact⟨h5,h6,h2,h7,h3,hx⟩
  repeat'(first|exact V9|refine W0 ?_ ?_)
  all_goals
   intro hpc;replace hpc:A6 (sgF X s) _:=hpc;simp only[A6,tmA,F8,kdA,aE2,aS9 hz hr hh hs,sf6,aX1,and_true]at hpc
   (repeat(obtain⟨_,hpc⟩:=hpc))
   first
    | rw[Cn.aQ8 h3 hd (by omega)]
    | rw[Cn.aQ7 h3 hd (by omega)]
   first
    | rw[Cn.ar7 h5 (by assumption)]
    | rw[Cn.ar8 h5 (by assumption)]
   (first|refine U3 (Cn.aN7 (by trivial)) ?_|refine U3 (Cn.aN6 (by trivial) (by trivial)) ?_|refine U3 (Cn.aN8 (by trivial) (by trivial) (by trivial)) ?_|refine dgiv4 (Cn.a4_7 (by trivial) (by trivial) (by trivial)) ?_|refine dgiv4 (Cn.a4_8 (by trivial) (by trivial) (by trivial)) ?_|refine dgiv4 (Cn.a4_o (by trivial) (by trivial) (by trivial) (by trivial) (by trivial)) ?_)
   refine T9 (fun N=>rfl) ?_ (fun _=>rfl) (A4 _);show E6 (sgF X s) X.c _=_;simp only[E6,svA,z7,kdA,A0];rw[aC1 (b:=true) (by exact hh)]<;>first
    | rfl
theorem c71(h:¬X.c.Z2 s)(h2:¬X.c.snt<X.c.B5 s)(hy:¬X.c.st=0->X.c.why=0)(h3:X.c.B5 s=X.c.una)(h5:X.c.st=2)(hx:s.len=0)(hx2:¬X.c.una<X.c.cur):aL0 w g a X s:=by
 unfold aL0;obtain⟨e1,e2,e3⟩:=Cn.aE8 h h2 (X.c.K8 X.L s);rw[e1,e2,e3,ao];have hd:¬(s.len=0/\X.c.una<X.c.cur/\s.win=X.c.wnd):=fun q=>hx2 q.2.1
 have h7:¬X.c.una<X.c.B5 s:=by omega
 have h6:¬X.c.B5 s<1:=fun q=>h ⟨h5, .inl q⟩
 .refine aO8 W hz hr hh hs c62 ?_ ?_
  .simp only[A6,tmA,F8,kdA,aE2,aS9 hz hr hh hs,sf6,and_true];exact⟨h5,h6,h2,h7,h3,hx,(by rw[h3];exact hx2)⟩
  repeat'(first|exact V9|refine W0 ?_ ?_)
  all_goals
   intro hpc;replace hpc:A6 (sgF X s) _:=hpc;simp only[A6,tmA,F8,kdA,aE2,aS9 hz hr hh hs,sf6,aX1,and_true]at hpc
   (repeat(obtain⟨_,hpc⟩:=hpc))
   first
    | rw[Cn.aQ8 h3 hd (by omega)]
    | rw[Cn.aQ7 h3 hd (by omega)]
   first
    | rw[Cn.ar7 h5 (by assumption)]
    | rw[Cn.ar8 h5 (by assumption)]
   (first|refine U3 (Cn.aN7 (by trivial)) ?_|refine U3 (Cn.aN6 (by trivial) (by trivial)) ?_|refine U3 (Cn.aN8 (by trivial) (by trivial) (by trivial)) ?_|refine dgiv4 (Cn.a4_7 (by trivial) (by trivial) (by trivial)) ?_|refine dgiv4 (Cn.a4_8 (by trivial) (by trivial) (by trivial)) ?_|refine dgiv4 (Cn.a4_o (by trivial) (by trivial) (by trivial) (by trivial) (by trivial)) ?_)
   refine T9 (fun N=>rfl) ?_ (fun _=>rfl) (A4 _);show E6 (sgF X s) X.c _=_;simp only[E6,svA,z7,kdA,A0];rw[aC1 (b:=true) (by exact hh)]<;>first
    | rfl
theorem c70(h:¬X.c.Z2 s)(h2:¬X.c.snt<X.c.B5 s)(hy:¬X.c.st=0->X.c.why=0)(h3:X.c.B5 s=X.c.una)(h5:X.c.st=2)(hx:s.len=0)(hx2:X.c.una<X.c.cur)(hx3:¬s.win=X.c.wnd):aL0 w g a X s:=by
 unfold aL0;obtain⟨e1,e2,e3⟩:=Cn.aE8 h h2 (X.c.K8 X.L s);rw[e1,e2,e3,ao];have hd:¬(s.len=0/\X.c.una<X.c.cur/\s.win=X.c.wnd):=fun q=>hx3 q.2.2
 have h7:¬X.c.una<X.c.B5 s:=by omega
 have h6:¬X.c.B5 s<1:=fun q=>h ⟨h5, .inl q⟩
 .refine aO8 W hz hr hh hs c61 ?_ ?_
  .simp only[A6,tmA,F8,kdA,aE2,aS9 hz hr hh hs,sf6,and_true];exact⟨h5,h6,h2,h7,h3,hx,(by rw[h3];exact hx2),hx3⟩
  repeat'(first|exact V9|refine W0 ?_ ?_)
  all_goals
   intro hpc;replace hpc:A6 (sgF X s) _:=hpc;simp only[A6,tmA,F8,kdA,aE2,aS9 hz hr hh hs,sf6,aX1,and_true]at hpc
   (repeat(obtain⟨_,hpc⟩:=hpc))
   first
    | rw[Cn.aQ8 h3 hd (by omega)]
    | rw[Cn.aQ7 h3 hd (by omega)]
   first
    | rw[Cn.ar7 h5 (by assumption)]
    | rw[Cn.ar8 h5 (by assumption)]
   (first|refine U3 (Cn.aN7 (by trivial)) ?_|refine U3 (Cn.aN6 (by trivial) (by trivial)) ?_|refine U3 (Cn.aN8 (by trivial) (by trivial) (by trivial)) ?_|refine dgiv4 (Cn.a4_7 (by trivial) (by trivial) (by trivial)) ?_|refine dgiv4 (Cn.a4_8 (by trivial) (by trivial) (by trivial)) ?_|refine dgiv4 (Cn.a4_o (by trivial) (by trivial) (by trivial) (by trivial) (by trivial)) ?_)
   refine T9 (fun N=>rfl) ?_ (fun _=>rfl) (A4 _);show E6 (sgF X s) X.c _=_;simp only[E6,svA,z7,kdA,A0];rw[aC1 (b:=true) (by exact hh)]<;>first
    | rfl
theorem c69(h:¬X.c.Z2 s)(h2:¬X.c.snt<X.c.B5 s)(hy:¬X.c.st=0->X.c.why=0)(h3:X.c.B5 s=X.c.una)(h5:X.c.st=2)(hx:s.len=0)(hx2:X.c.una<X.c.cur)(hx3:s.win=X.c.wnd):aL0 w g a X s:=by
 unfold aL0;obtain⟨e1,e2,e3⟩:=Cn.aE8 h h2 (X.c.K8 X.L s);rw[e1,e2,e3,ao];have hd:s.len=0/\X.c.una<X.c.cur/\s.win=X.c.wnd:=⟨hx,hx2,hx3⟩;have h7:¬X.c.una<X.c.B5 s:=by omega
 have h6:¬X.c.B5 s<1:=fun q=>h ⟨h5, .inl q⟩
 .refine aO8 W hz hr hh hs c60 ?_ ?_
  .simp only[A6,tmA,F8,kdA,aE2,aS9 hz hr hh hs,sf6,and_true];exact⟨h5,h6,h2,h7,h3,hx,(by rw[h3];exact hx2),hx3⟩
  repeat'(first|exact V9|refine W0 ?_ ?_)
  all_goals
   intro hpc;replace hpc:A6 (sgF X s) _:=hpc;simp only[A6,tmA,F8,kdA,aE2,aS9 hz hr hh hs,sf6,aX1,and_true]at hpc
   (repeat(obtain⟨_,hpc⟩:=hpc))
   first
    | rw[Cn.bM8 h3 hd (by omega)]
    | rw[Cn.bM7 h3 hd (by omega)]
   first
    | rw[Cn.ar7 h5 (by assumption)]
    | rw[Cn.ar8 h5 (by assumption)]
   first
    | rw[Cn.bv2 (by assumption)]
    | rw[Cn.bv1 (by assumption)]
   (first|refine U3 (Cn.aN7 (by trivial)) ?_|refine U3 (Cn.aN6 (by trivial) (by trivial)) ?_|refine U3 (Cn.aN8 (by trivial) (by trivial) (by trivial)) ?_|refine dgiv4 (Cn.a4_7 (by trivial) (by trivial) (by trivial)) ?_|refine dgiv4 (Cn.a4_8 (by trivial) (by trivial) (by trivial)) ?_|refine dgiv4 (Cn.a4_o (by trivial) (by trivial) (by trivial) (by trivial) (by trivial)) ?_)
   refine T9 (fun N=>rfl) ?_ (fun _=>rfl) (A4 _);show E6 (sgF X s) X.c _=_;simp only[E6,svA,z7,kdA,A0,kDu h3];rw[aC1 (b:=true) (by exact hh)]<;>first
    | rfl
theorem c76(h:¬X.c.Z2 s)(h2:¬X.c.snt<X.c.B5 s)(hy:¬X.c.st=0->X.c.why=0)(h3:X.c.B5 s=X.c.una)(h5:¬X.c.st=2)(hx:¬s.len=0):aL0 w g a X s:=by
 unfold aL0;obtain⟨e1,e2,e3⟩:=Cn.aE8 h h2 (X.c.K8 X.L s);rw[e1,e2,e3,ao];have hd:¬(s.len=0/\X.c.una<X.c.cur/\s.win=X.c.wnd):=fun q=>hx q.1
 have h7:¬X.c.una<X.c.B5 s:=by omega
 .refine aO8 W hz hr hh hs c67 ?_ ?_
  .simp only[A6,tmA,F8,kdA,aE2,aS9 hz hr hh hs,sf6,and_true];exact⟨h5,h2,h7,h3,hx⟩
  repeat'(first|exact V9|refine W0 ?_ ?_)
  all_goals
   intro hpc;replace hpc:A6 (sgF X s) _:=hpc;simp only[A6,tmA,F8,kdA,aE2,aS9 hz hr hh hs,sf6,aX1,and_true]at hpc
   (repeat(obtain⟨_,hpc⟩:=hpc))
   first
    | rw[Cn.aQ8 h3 hd (by omega)]
    | rw[Cn.aQ7 h3 hd (by omega)]
   rw[Cn.aj7 h5]
   (first|refine U3 (Cn.aN7 (by trivial)) ?_|refine U3 (Cn.aN6 (by trivial) (by trivial)) ?_|refine U3 (Cn.aN8 (by trivial) (by trivial) (by trivial)) ?_|refine U3 (Cn.ak2 (by trivial) (by trivial) (by trivial)) ?_|refine U3 (Cn.ak1 (by trivial) (by trivial) (by trivial)) ?_|refine U3 (Cn.ak0 (by trivial) (by trivial) (by trivial) (by trivial) (by trivial)) ?_)
   refine T9 (fun N=>rfl) ?_ (fun _=>rfl) (A4 _);show E6 (sgF X s) X.c _=_;simp only[E6,svA,z7,kdA,A0];rw[aC1 (b:=true) (by exact hh)]<;>first
    | rfl
theorem c75(h:¬X.c.Z2 s)(h2:¬X.c.snt<X.c.B5 s)(hy:¬X.c.st=0->X.c.why=0)(h3:X.c.B5 s=X.c.una)(h5:¬X.c.st=2)(hx:s.len=0)(hx2:¬X.c.una<X.c.cur):aL0 w g a X s:=by
 unfold aL0;obtain⟨e1,e2,e3⟩:=Cn.aE8 h h2 (X.c.K8 X.L s);rw[e1,e2,e3,ao];have hd:¬(s.len=0/\X.c.una<X.c.cur/\s.win=X.c.wnd):=fun q=>hx2 q.2.1
 have h7:¬X.c.una<X.c.B5 s:=by omega
 .refine aO8 W hz hr hh hs c66 ?_ ?_
  .simp only[A6,tmA,F8,kdA,aE2,aS9 hz hr hh hs,sf6,and_true];exact⟨h5,h2,h7,h3,hx,(by rw[h3];exact hx2)⟩
  repeat'(first|exact V9|refine W0 ?_ ?_)
  all_goals
   intro hpc;replace hpc:A6 (sgF X s) _:=hpc;simp only[A6,tmA,F8,kdA,aE2,aS9 hz hr hh hs,sf6,aX1,and_true]at hpc
   (repeat(obtain⟨_,hpc⟩:=hpc))
   first
    | rw[Cn.aQ8 h3 hd (by omega)]
    | rw[Cn.aQ7 h3 hd (by omega)]
   rw[Cn.aj7 h5]
   (first|refine U3 (Cn.aN7 (by trivial)) ?_|refine U3 (Cn.aN6 (by trivial) (by trivial)) ?_|refine U3 (Cn.aN8 (by trivial) (by trivial) (by trivial)) ?_|refine U3 (Cn.ak2 (by trivial) (by trivial) (by trivial)) ?_|refine U3 (Cn.ak1 (by trivial) (by trivial) (by trivial)) ?_|refine U3 (Cn.ak0 (by trivial) (by trivial) (by trivial) (by trivial) (by trivial)) ?_)
   refine T9 (fun N=>rfl) ?_ (fun _=>rfl) (A4 _);show E6 (sgF X s) X.c _=_;simp only[E6,svA,z7,kdA,A0];rw[aC1 (b:=true) (by exact hh)]<;>first
    | rfl
theorem c74(h:¬X.c.Z2 s)(h2:¬X.c.snt<X.c.B5 s)(hy:¬X.c.st=0->X.c.why=0)(h3:X.c.B5 s=X.c.una)(h5:¬X.c.st=2)(hx:s.len=0)(hx2:X.c.una<X.c.cur)(hx3:¬s.win=X.c.wnd):aL0 w g a X s:=by
 unfold aL0;obtain⟨e1,e2,e3⟩:=Cn.aE8 h h2 (X.c.K8 X.L s);rw[e1,e2,e3,ao];have hd:¬(s.len=0/\X.c.una<X.c.cur/\s.win=X.c.wnd):=fun q=>hx3 q.2.2
 have h7:¬X.c.una<X.c.B5 s:=by omega
 .refine aO8 W hz hr hh hs c65 ?_ ?_
  .simp only[A6,tmA,F8,kdA,aE2,aS9 hz hr hh hs,sf6,and_true];exact⟨h5,h2,h7,h3,hx,(by rw[h3];exact hx2),hx3⟩
  repeat'(first|exact V9|refine W0 ?_ ?_)
  all_goals
   intro hpc;replace hpc:A6 (sgF X s) _:=hpc;simp only[A6,tmA,F8,kdA,aE2,aS9 hz hr hh hs,sf6,aX1,and_true]at hpc
   (repeat(obtain⟨_,hpc⟩:=hpc))
   first
    | rw[Cn.aQ8 h3 hd (by omega)]
    | rw[Cn.aQ7 h3 hd (by omega)]
   rw[Cn.aj7 h5]
   (first|refine U3 (Cn.aN7 (by trivial)) ?_|refine U3 (Cn.aN6 (by trivial) (by trivial)) ?_|refine U3 (Cn.aN8 (by trivial) (by trivial) (by trivial)) ?_|refine U3 (Cn.ak2 (by trivial) (by trivial) (by trivial)) ?_|refine U3 (Cn.ak1 (by trivial) (by trivial) (by trivial)) ?_|refine U3 (Cn.ak0 (by trivial) (by trivial) (by trivial) (by trivial) (by trivial)) ?_)
   refine T9 (fun N=>rfl) ?_ (fun _=>rfl) (A4 _);show E6 (sgF X s) X.c _=_;simp only[E6,svA,z7,kdA,A0];rw[aC1 (b:=true) (by exact hh)]<;>first
    | rfl
theorem c73(h:¬X.c.Z2 s)(h2:¬X.c.snt<X.c.B5 s)(hy:¬X.c.st=0->X.c.why=0)(h3:X.c.B5 s=X.c.una)(h5:¬X.c.st=2)(hx:s.len=0)(hx2:X.c.una<X.c.cur)(hx3:s.win=X.c.wnd):aL0 w g a X s:=by
 unfold aL0;obtain⟨e1,e2,e3⟩:=Cn.aE8 h h2 (X.c.K8 X.L s);rw[e1,e2,e3,ao];have hd:s.len=0/\X.c.una<X.c.cur/\s.win=X.c.wnd:=⟨hx,hx2,hx3⟩;have h7:¬X.c.una<X.c.B5 s:=by omega
 .refine aO8 W hz hr hh hs c64 ?_ ?_
  .simp only[A6,tmA,F8,kdA,aE2,aS9 hz hr hh hs,sf6,and_true];exact⟨h5,h2,h7,h3,hx,(by rw[h3];exact hx2),hx3⟩
  repeat'(first|exact V9|refine W0 ?_ ?_)
  all_goals
   intro hpc;replace hpc:A6 (sgF X s) _:=hpc;simp only[A6,tmA,F8,kdA,aE2,aS9 hz hr hh hs,sf6,aX1,and_true]at hpc
   (repeat(obtain⟨_,hpc⟩:=hpc))
   first
    | rw[Cn.bM8 h3 hd (by omega)]
    | rw[Cn.bM7 h3 hd (by omega)]
   rw[Cn.aj7 h5];first
    | rw[Cn.bv2 (by assumption)]
    | rw[Cn.bv1 (by assumption)]
   (first|refine U3 (Cn.aN7 (by trivial)) ?_|refine U3 (Cn.aN6 (by trivial) (by trivial)) ?_|refine U3 (Cn.aN8 (by trivial) (by trivial) (by trivial)) ?_|refine U3 (Cn.ak2 (by trivial) (by trivial) (by trivial)) ?_|refine U3 (Cn.ak1 (by trivial) (by trivial) (by trivial)) ?_|refine U3 (Cn.ak0 (by trivial) (by trivial) (by trivial) (by trivial) (by trivial)) ?_)
   refine T9 (fun N=>rfl) ?_ (fun _=>rfl) (A4 _);show E6 (sgF X s) X.c _=_;simp only[E6,svA,z7,kdA,A0,kDu h3];rw[aC1 (b:=true) (by exact hh)]<;>first
    | rfl
theorem dk0(hy:¬X.c.st=0->X.c.why=0):aL0 w g a X s:=by
 by_cases h:X.c.Z2 s
 .exact eS9 W hz hr hh hs h
 by_cases h2:X.c.snt<X.c.B5 s
 .exact eS8 W hz hr hh hs h h2
 by_cases h3:X.c.una<X.c.B5 s
 .exact eS6 W hz hr hh hs h h2 hy h3
 by_cases h4:X.c.B5 s=X.c.una
 .by_cases h5:X.c.st=2
  .by_cases hx:s.len=0
   .by_cases hx2:X.c.una<X.c.cur
    .by_cases hx3:s.win=X.c.wnd
     .exact c69 W hz hr hh hs h h2 hy h4 h5 hx hx2 hx3
     .exact c70 W hz hr hh hs h h2 hy h4 h5 hx hx2 hx3
    .exact c71 W hz hr hh hs h h2 hy h4 h5 hx hx2
   .exact c72 W hz hr hh hs h h2 hy h4 h5 hx
  .by_cases hx:s.len=0
   .by_cases hx2:X.c.una<X.c.cur
    .by_cases hx3:s.win=X.c.wnd
     .exact c73 W hz hr hh hs h h2 hy h4 h5 hx hx2 hx3
     .exact c74 W hz hr hh hs h h2 hy h4 h5 hx hx2 hx3
    .exact c75 W hz hr hh hs h h2 hy h4 h5 hx hx2
   .exact c76 W hz hr hh hs h h2 hy h4 h5 hx
 .exact eS7 W hz hr hh hs h h2 hy h3 h4
end
def brL:Tm:= .add qda (.ite (.bv 2) l9 i9)
def brP:Tm:= .tb qax k29 (.tb qax k30 (.tb qax w9 qfj i9) i9) i9
def brM:Tm:= .ap 50 j5 brP i9
def brF:Tm:= .ap 51 j5 brP i9
def brV:Tm:= .ap 34 brM k29 brF
abbrev qj0:List (Nat × Tm):=⟨17,qav⟩::qhn
abbrev qj3:List (Nat × Tm):=[⟨28,l6⟩,⟨30,brF⟩]
abbrev qj1:List (Nat × Tm):=⟨18,l6⟩::qj3
abbrev qj2:List (Nat × Tm):=⟨17,qav⟩::qhd
theorem dh0:rnD prog f65 dcS [.one (.agg W9)] true (V5 true sgB)=some (fq8 ([.b (.lt i9 brL),.b qbg,.b (.bv 2),.l (.ret (.tup []) j8 (qj0) j5 j6)]++wa6++[.d (.lt k4 (.il 3)),.b (.lt (.il 5) k4)]++wa6++[.d brV,.l (.ret (.tup []) j8 (qj1) brM j6),.b qcw,.l (.ret (.tup []) j8 (⟨4,(.il 6)⟩::qj1) brM j6),.b qa3,.l (.ret (.tup []) j8 (⟨4,(.il 7)⟩::qj1) brM j6),.b (.eq k4 (.il 5)),.l (.ret (.tup []) j8 (⟨4,(.il 9)⟩::⟨17,qav⟩::qj1) brM j6),.l (.ret (.tup []) j8 (qj1) brM j6)]++wa6++[.b qbg,.b (.bv 2),.l (.ret (.tup []) j8 (qj2) j5 j6)]++waU++[.d (.lt k4 (.il 3)),.b (.lt (.il 5) k4)]++waU++[.d brV,.l (.ret (.tup []) j8 (qj3) brM j6),.b qcw,.l (.ret (.tup []) j8 (⟨4,(.il 6)⟩::qj3) brM j6),.b qa3,.l (.ret (.tup []) j8 (⟨4,(.il 7)⟩::qj3) brM j6),.b (.eq k4 (.il 5)),.l (.ret (.tup []) j8 (⟨4,(.il 9)⟩::⟨17,qav⟩::qj3) brM j6),.l (.ret (.tup []) j8 (qj3) brM j6)]++waU) [[]]):=by kernel_rfl
section
variable(X:Cs)(s:Sg)
theorem dQ0:(u9 (sgF X s) brL).i=s.len:=by
 unfold Sg.len brL;rw[z7,z7,A8,aw0,aw0];rfl
theorem eS3(h:X.c.opn):(u9 (sgF X s) brF).i=X.c.aV2 X.L s (X.c.K8 X.L s):=by unfold Cn.aV2;rw[if_pos h];rfl
theorem eS2(h:X.c.opn):(u9 (sgF X s) brM).c=X.c.aA4 X.L s (X.c.K8 X.L s):=by unfold Cn.aA4;rw[if_pos h];rfl
theorem eS1(h:X.c.opn):(u9 (sgF X s) brV).b=Z3 (X.c.aA4 X.L s (X.c.K8 X.L s)) X.c.rd (X.c.aV2 X.L s (X.c.K8 X.L s)):=by
 unfold Cn.aA4 Cn.aV2;rw[if_pos h,if_pos h];rfl
end
theorem dx6{a:Bool}{p:Prop}[Decidable p](h:p):(a||decide p)=true:=by rw[aD h,Bool.or_true]
theorem dx7{a:Bool}{p:Prop}[Decidable p](h:¬p):(a||decide p)=a:=by rw[aH h,Bool.or_false]
theorem b11{w:World}{g:Nat}{a:Da}{X:Cs}(W:DcW w g a X)(hz:SzX X)(hr:RgX X.c)(hh:X.c.has=true){s:Sg}(hs:SgIn s):
 Calls prog 65 #[.pointer (some ⟨g,0,none⟩),sgV s] w (F7 fun v' w'=>v'= .tuple #[]/\aS6 w w' g (Y8 a g true) ⟨X.c.aA5 X.L s (X.c.K8 X.L s),X.c.aA4 X.L s (X.c.K8 X.L s),X.R⟩):=by
 refine Y2 (is:=[s.fa,s.fp,s.ta,s.tp,s.sq,s.ak,s.win,s.mss]) (bs:=[s.syn,s.hak,s.fin,s.rst]) (ss:=[s.body]) (ao8 (L6 ..)) func65 rfl dh0 W hh (Z1 hh hz hr (bW2 hs)) ?_ rfl;repeat'(first|exact V9|refine W0 ?_ ?_)
 all_goals
  intro hpc;replace hpc:A6 (sgF X s) _:=hpc;by_cases ho:X.c.opn
  .simp only[A6,tmA,F8,kdA,sg2,dQ0,eS1 X s ho,and_true]at hpc
   (repeat(obtain⟨_,hpc⟩:=hpc))
   have ho':=ho;unfold Cn.opn at ho';first
   | (exfalso;omega)
   | (refine T9 (fun N=>rfl) ?_ (fun _=>eS2 X s ho) (A4 _)
      show E6 (sgF X s) X.c _=X.c.aA5 X.L s (X.c.K8 X.L s);simp only[E6,svA,kdA,A0,z7,eS3 X s ho];rw[aC1 (b:=true) bE];unfold Cn.aA5;rw[if_pos ho];first
      | (rw[if_pos (show Z3 (X.c.aA4 X.L s (X.c.K8 X.L s)) X.c.rd (X.c.aV2 X.L s (X.c.K8 X.L s))=true from by assumption)]
         unfold Cn.bl8;first
         | rw[if_pos (show X.c.st=3 from by assumption)]
         | (rw[if_neg (show ¬X.c.st=3 from by assumption),if_pos (show X.c.st=4 from by assumption)])
         | (rw[if_neg (show ¬X.c.st=3 from by assumption),if_neg (show ¬X.c.st=4 from by assumption)]))
      | rw[if_neg (show ¬Z3 (X.c.aA4 X.L s (X.c.K8 X.L s)) X.c.rd (X.c.aV2 X.L s (X.c.K8 X.L s))=true from by assumption)]
      first
      | rw[dx6 (show 0<s.len from by assumption)]
      | rw[dx7 (show ¬0<s.len from by assumption)]
      all_goals rfl)
  .simp only[A6,tmA,F8,kdA,sg2,dQ0,and_true]at hpc
   (repeat(obtain⟨_,hpc⟩:=hpc))
   have ho':=ho;unfold Cn.opn at ho';first
   | (exfalso;omega)
   | (refine T9 (fun N=>rfl) ?_ (fun _=>by unfold Cn.aA4;rw[if_neg ho];rfl) (A4 _)
      show E6 (sgF X s) X.c _=X.c.aA5 X.L s (X.c.K8 X.L s);simp only[E6,svA,kdA,A0,z7];rw[aC1 (b:=true) bE];unfold Cn.aA5;rw[if_neg ho];first
      | rw[if_pos (show X.c.st=9/\s.fin=true from⟨by assumption,by assumption⟩)]
      | rw[if_neg (show ¬(X.c.st=9/\s.fin=true)from fun q=>(show ¬X.c.st=9 from by assumption) q.1)]
      | rw[if_neg (show ¬(X.c.st=9/\s.fin=true)from fun q=>(show ¬s.fin=true from by assumption) q.2)]
      first
      | rw[dx6 (show 0<s.len from by assumption)]
      | rw[dx7 (show ¬0<s.len from by assumption)]
      all_goals rfl)
theorem cG5(c:Cn)(L:Rws)(s:Sg): -2305843009213693952<=c.K8 L s/\c.K8 L s<=2305843009213693952:=by
 have:=bg7 ((s.sq - c.irs) % 4294967296) (Z8 L c.rd c.fin);unfold Cn.K8;omega
def anG:Gp where
 f:=64
 args:=sgA
 need:=fun c h ts R _ _=>av1 c ts R++(a06 c h ts++((if h then []else [.bl false])++(F9 c (.eq (tj ts 5) i9)++F9 c (.le (tj ts 16) (.il 1152921504606846975)))))
 has':=fun h=>h
 row:=fun Y L _ z=> .ap 133 Y L z
 L:=fun _ L _ _=>L
 R:=fun Y _ R _ z=> .tb .app R (.ap 125 Y i9 z) i9
 ans:=fun Y L _ z=> .one (.c (.bool (.ap 134 Y L z)))
 bs:=fun _ h Y L _ z=>⟨L7 (.ap 125 Y i9 z),0,1⟩::bdY h (.ap 133 Y L z)
def brG:Gp where
 f:=65
 args:=sgA
 need:=fun c h ts R _ _=>av1 c ts R++(a06 c h ts++(if h then []else [.bl false]))
 has':=fun h=>h
 row:=fun Y L _ z=> .ap 136 Y L z
 L:=fun Y L _ z=> .ap 137 Y L z
 R:=fun _ _ R _ _=>R
 ans:=fun _ _ _ _=> .tup []
 bs:=fun _ h Y L _ z=>bdY h (.ap 136 Y L z)
section
variable{J:Env}(E:CnEnv J)
include E
theorem eE4:(af7 anG).Ok prog J:=by
 refine a34 E fun{cx xs m y z has ts Y L R X} hc ha hm hn e hY hh hL hR {w g a} W N=>?_
 change sgA cx xs=some (m,y,z)at ha;unfold sgA at ha;split at ha
 .rename_i cs;cases hg:aV6 qao cs with
  | none=>rw[hg]at ha;cases ha
  | some z'=>
    rw[hg]at ha;injection ha with ha;injection ha with h1 ha;injection ha with h2 h3;subst h1 h2 h3;obtain⟨g1,g2,g3⟩:=af0 (J:=J) hg;have hs:=g2 cx hc hm;have hz:=aX9 hc hn.l e hR;have hr:=ab0 hc hn.r.l e hh;have hb':=bE9 hn.r.r.l;subst hb';have hw:=z0 hc hn.r.r.r.l;rw[A9]at hw;have h16:=B2 (z0 hc hn.r.r.r.r);have ew:(u9 J (tj ts 5)).i=X.c.why:=by rw[<-e];rfl
    have e16:(u9 J (tj ts 16)).i=X.c.same:=by rw[<-e];rfl
    rw[ew]at hw;rw[e16]at h16;have hw:X.c.why=0:=hw;have h16:X.c.same<=1152921504606846975:=h16;generalize hG:W5 (hd (u9 J z'))=G at g1 hs;have hrow:hd (u9 J (.ap 133 Y L z'))=K9 (X.c.Z4 G (X.c.K8 X.L G)):=by
     rw[F3 E.f];show K9 ((R7 (hd (u9 J Y))).Z4 (W5 (hd (u9 J z'))) ((R7 (hd (u9 J Y))).K8 (u9 J L).c (W5 (hd (u9 J z')))))=_;rw[hY,U7,hG,hL]
    have ea:=aO0 X.c G (X.c.K8 X.L G);have eA:(SV.one (.c (.bool (.ap 134 Y L z')))).A1 J N= .bool (X.c.aE9 G (X.c.K8 X.L G)):=by
     show Value.bool (u9 J (.ap 134 Y L z')).b=_;rw[F3 E.f];show Value.bool ((R7 (hd (u9 J Y))).aE9 (W5 (hd (u9 J z'))) ((R7 (hd (u9 J Y))).K8 (u9 J L).c (W5 (hd (u9 J z')))))=_;rw[hY,U7,hG,hL]
    have eR:(u9 J (.tb .app R (.ap 125 Y i9 z') i9)).c=Y3 (X.R++X.c.aC5 G):=by
     show(u9 J R).c++(u9 J (.ap 125 Y i9 z')).c=_;rw[F3 E.f,hR];show Y3 X.R++Y3 ((R7 (hd (u9 J Y))).aC5 (W5 (hd (u9 J z'))))=_;rw[hY,U7,hG];unfold Y3;rw[bb]
    have el:0<=(u9 J (L7 (.ap 125 Y i9 z'))).i/\(u9 J (L7 (.ap 125 Y i9 z'))).i<=1:=by
     show(0:Int)<=(((u9 J (.ap 125 Y i9 z')).c.length:Nat):Int)/\(((u9 J (.ap 125 Y i9 z')).c.length:Nat):Int)<=1;rw[F3 E.f];show(0:Int)<=(((Y3 ((R7 (hd (u9 J Y))).aC5 (W5 (hd (u9 J z'))))).length:Nat):Int)/\(((Y3 ((R7 (hd (u9 J Y))).aC5 (W5 (hd (u9 J z'))))).length:Nat):Int)<=1;rw[aT8];unfold Cn.aC5;split
     .exact⟨by show(0:Int)<=1;decide,by show(1:Int)<=1;decide⟩
     .exact⟨by show(0:Int)<=0;decide,by show(0:Int)<=1;decide⟩
    refine⟨fun x hx=>(aa.1 hx).elim (fun e=>by rw[e];exact el) fun hx=>ai5 (X:=⟨X.c.Z4 G (X.c.K8 X.L G),X.L,X.R⟩) E.f hrow (ea.2.trans hh) (bi4 hr hh hs h16 (cG5 _ _ _)) ce x hx,fun _=>rfl,⟨X.c.Z4 G (X.c.K8 X.L G),X.L,X.R++X.c.aC5 G⟩,hrow,ea.2.trans hh,fun _=>hL,eR,?_⟩;have hA:=dk0 W hz hr hh hs (fun _=>hw);unfold aL0 at hA;show Calls prog _ _ w (F7 fun v w'=>v=(SV.one (.c (.bool (.ap 134 Y L z')))).A1 J N/\_);rw[eA];have ev:([SV.one (.agg cs)].map (SV.A1 J N)).toArray=#[sgV G]:=by
     show #[V1.W7 J N (.agg cs)]=_;rw[g1]
    rw[ev];exact hA
 .cases ha
theorem eD9:(af7 brG).Ok prog J:=by
 refine a34 E fun{cx xs m y z has ts Y L R X} hc ha hm hn e hY hh hL hR {w g a} W N=>?_
 change sgA cx xs=some (m,y,z)at ha;unfold sgA at ha;split at ha
 .rename_i cs;cases hg:aV6 qao cs with
  | none=>rw[hg]at ha;cases ha
  | some z'=>
    rw[hg]at ha;injection ha with ha;injection ha with h1 ha;injection ha with h2 h3;subst h1 h2 h3;obtain⟨g1,g2,g3⟩:=af0 (J:=J) hg;have hs:=g2 cx hc hm;have hz:=aX9 hc hn.l e hR;have hr:=ab0 hc hn.r.l e hh;have hb':=bE9 hn.r.r;subst hb';generalize hG:W5 (hd (u9 J z'))=G at g1 hs;have hrow:hd (u9 J (.ap 136 Y L z'))=K9 (X.c.aA5 X.L G (X.c.K8 X.L G)):=by
     rw[F3 E.f];show K9 ((R7 (hd (u9 J Y))).aA5 (u9 J L).c (W5 (hd (u9 J z'))) ((R7 (hd (u9 J Y))).K8 (u9 J L).c (W5 (hd (u9 J z')))))=_;rw[hY,U7,hG,hL]
    have hL':(u9 J (.ap 137 Y L z')).c=X.c.aA4 X.L G (X.c.K8 X.L G):=by
     rw[F3 E.f];show(R7 (hd (u9 J Y))).aA4 (u9 J L).c (W5 (hd (u9 J z'))) ((R7 (hd (u9 J Y))).K8 (u9 J L).c (W5 (hd (u9 J z'))))=_;rw[hY,U7,hG,hL]
    have ea:=ao4 X.c X.L G (X.c.K8 X.L G);refine⟨ai5 (X:=⟨X.c.aA5 X.L G (X.c.K8 X.L G),X.L,X.R⟩) E.f hrow (ea.2.trans hh) (bO3 hr _ _ _) bZ,fun _=>rfl,⟨X.c.aA5 X.L G (X.c.K8 X.L G),X.c.aA4 X.L G (X.c.K8 X.L G),X.R⟩,hrow,ea.2.trans hh,fun _=>hL',hR,?_⟩;have hA:=b11 W hz hr hh hs;have ev:([SV.one (.agg cs)].map (SV.A1 J N)).toArray=#[sgV G]:=by
     show #[V1.W7 J N (.agg cs)]=_;rw[g1]
    rw[ev];exact hA
 .cases ha
end
end Go.Proofs.YtnlcpcmdlcakgaaGreat
