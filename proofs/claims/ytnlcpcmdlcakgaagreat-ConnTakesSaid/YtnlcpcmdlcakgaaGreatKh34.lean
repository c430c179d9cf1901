/- A part of the proof that a connection answers as the document says: CnW CnX. -/
import Derived.Test.YtnlcpcmdlcakgaaGreatKh29
set_option maxRecDepth 100000
set_option maxHeartbeats 4000000
set_option linter.unusedVariables false
set_option linter.unusedSimpArgs false
set_option linter.unusedSectionVars false
open Go.Proofs.Tryz
namespace Go.Proofs.YtnlcpcmdlcakgaaGreat
open Go.RowKit Sy
def asS:List Sy.Spec:=af6 akG::pcS
def asB:List Bd:=⟨.iv 8,-9223372036854775808,9223372036854775807⟩::sgB
def kA:Tm:= .ap 100 (.md (.sub l8 k6) qca) w6 i9
abbrev qab:Tm:= .ap 122 (.ap 92 o6 (.ap 91 s8 j8 s8) l6) kA i9
abbrev qac:Tm:= .ap 122 (.ap 92 o6 (.ap 91 s8 j8 (.il 3)) l6) kA i9
abbrev qae:Tm:= .ap 122 (.ap 92 o6 j8 l6) kA i9
abbrev qai:Tm:= .ap 109 I6 (.sub y4 kA) i9
abbrev qbk:Tm:= .lt kA l9
abbrev qby:Tm:= .ap 90 s8 qae i9
abbrev qbz:Tm:= .ap 90 s8 qac i9
abbrev qb0:Tm:= .ap 90 s8 qab i9
abbrev qb5:Tm:= .eq (.ap 90 (.il 24) qae i9) (.add (.len (.ap 90 (.il 27) qae i9)) u0)
abbrev qb6:Tm:= .eq (.ap 90 (.il 24) qac i9) (.add (.len (.ap 90 (.il 27) qac i9)) u0)
abbrev qb7:Tm:= .eq (.ap 90 (.il 24) qab i9) (.add (.len (.ap 90 (.il 27) qab i9)) u0)
abbrev qdl:Tm:= .add (.ap 90 (.il 13) qae i9) (.il 20)
abbrev qdm:Tm:= .add (.ap 90 (.il 13) qac i9) (.il 20)
abbrev qdn:Tm:= .add (.ap 90 (.il 13) qab i9) (.il 20)
abbrev qey:Tm:= .ap 90 (.il 23) qae i9
abbrev qez:Tm:= .ap 90 (.il 23) qac i9
abbrev qe0:Tm:= .ap 90 (.il 23) qab i9
abbrev qgo:Tm:= .eq qbz (.il 8)
abbrev qgp:Tm:= .eq qbz (.il 7)
abbrev qgq:Tm:= .eq qbz s8
abbrev qgr:Tm:= .eq qby (.il 8)
abbrev qgs:Tm:= .eq qby (.il 7)
abbrev qgt:Tm:= .eq qby s8
abbrev qgv:Tm:= .eq qb0 (.il 8)
abbrev qgw:Tm:= .eq qb0 (.il 7)
abbrev qgx:Tm:= .eq qb0 s8
def sgL:Tm:=bE7 ⟨(V5 true asB).bs,[]⟩ l7 o9 (.bv 2)
theorem dl3:rnC prog f102 asS [.one (.agg W9), .one (.c (.int .i64 s6))] true ⟨(V5 true asB).bs,[qa4, .lt kA l9]⟩=some [(.ret qal j8 (qhd) j5 qbc [qa4,qbk])]:=by kernel_rfl
theorem dl2:rnC prog f102 asS [.one (.agg W9), .one (.c (.int .i64 s6))] true ⟨(V5 true asB).bs,[qa4, .not qbk, .lt y5 kA]⟩=some [(.ret qal j8 (qhd) j5 qbc [qa4,(.not qbk),(.lt y5 kA)])]:=by kernel_rfl
abbrev qhn:List (Nat × Tm):=⟨18,l6⟩::qhd
theorem dl6:rnC prog f102 asS [.one (.agg W9), .one (.c (.int .i64 s6))] true ⟨(V5 true asB).bs,[.not qa4, .lt y5 kA]⟩=some [(.ret qal j8 (qhn) j5 j6 [(.not qa4),(.lt y5 kA)])]:=by kernel_rfl
abbrev qhr:List (Nat × Tm):=⟨10,p7⟩::⟨11,s6⟩::⟨12,kA⟩::qhd
abbrev qho:List (Nat × Tm):=⟨4,(.il 5)⟩::qhr
abbrev qhp:List (Nat × Tm):=⟨12,kA⟩::⟨17,qdn⟩::qhd
abbrev qhq:List (Nat × Tm):=⟨4,i9⟩::⟨5,i9⟩::qhr
abbrev qhs:List (Nat × Tm):=⟨12,kA⟩::⟨17,qdm⟩::qhd
abbrev qhv:List Tm:=[.not (.lt y5 kA),.lt w6 kA]
abbrev qht:List Tm:=(.eq k4 u0)::(.not qbk)::qhv
theorem dl1:rnC prog f102 asS [.one (.agg W9), .one (.c (.int .i64 s6))] true ⟨(V5 true asB).bs,[qa4, .not qbk, .not (.lt y5 kA), .lt w6 kA]⟩=some (fq8 [.b y6,.b qe0,.b qb7,.b qgx,.l (.ret qaa qab (qho) j5 j6),.b qgw,.l (.ret qaa qab (⟨4,(.il 9)⟩::⟨10,p7⟩::⟨11,s6⟩::qhp) j5 j6),.b qgv,.l (.ret qal qab (qhq) j5 j6),.l (.ret qaa qab (qhr) j5 j6),.l (.ret qaa qab (qhr) j5 j6),.l (.ret qaa qab (qhr) j5 j6),.b qez,.b qb6,.b qgq,.l (.ret qaa qac (qho) j5 j6),.b qgp,.l (.ret qaa qac (⟨4,(.il 9)⟩::⟨10,p7⟩::⟨11,s6⟩::qhs) j5 j6),.b qgo,.l (.ret qal qac (qhq) j5 j6),.l (.ret qaa qac (qhr) j5 j6),.l (.ret qaa qac (qhr) j5 j6),.l (.ret qaa qac (qhr) j5 j6)] [(qht)]):=by kernel_rfl
abbrev qhu:List (Nat × Tm):=⟨12,kA⟩::⟨17,qdl⟩::qhd
theorem dl5:rnC prog f102 asS [.one (.agg W9), .one (.c (.int .i64 s6))] true ⟨(V5 true asB).bs,[.not qa4, .not (.lt y5 kA), .lt w6 kA]⟩=some (fq8 [.b qey,.b qb5,.b qgt,.l (.ret qaa qae (qho) j5 j6),.b qgs,.l (.ret qaa qae (⟨4,(.il 9)⟩::⟨10,p7⟩::⟨11,s6⟩::qhu) j5 j6),.b qgr,.l (.ret qal qae (qhq) j5 j6),.l (.ret qaa qae (qhr) j5 j6),.l (.ret qaa qae (qhr) j5 j6),.l (.ret qaa qae (qhr) j5 j6)] [((.not qa4)::qhv)]):=by kernel_rfl
abbrev qhw:List (Nat × Tm):=⟨4,(.il 5)⟩::qhd
abbrev qhx:List (Nat × Tm):=⟨4,s8⟩::qhd
abbrev qhy:List (Nat × Tm):=⟨4,(.il 3)⟩::qhd
abbrev qhz:List Tm:=[.eq k4 u0,.not qbk,.not (.lt y5 kA),.not (.lt w6 kA),.not (.eq kA w6)]
abbrev wa2:List (Tq8 Cm):=[.b qaf,.l (.ret qaa j8 (qhw) j5 j6),.l (.ret qaa j8 (qhx) j5 j6)]
theorem dl0:rnC prog f102 asS [.one (.agg W9), .one (.c (.int .i64 s6))] true ⟨(V5 true asB).bs,[qa4, .not qbk, .not (.lt y5 kA), .not (.lt w6 kA), .not (.eq kA w6)]⟩=some (fq8 ([.b y6]++wa2++[.l (.ret qaa j8 (qhy) j5 j6)]) [(qhz)]):=by kernel_rfl
abbrev qh0:List (Nat × Tm):=⟨4,(.il 9)⟩::⟨17,qav⟩::qhd
abbrev qh1:List (Nat × Tm):=⟨4,i9⟩::⟨5,i9⟩::qhd
abbrev qh2:List Tm:=[.not qa4,.not (.lt y5 kA),.not (.lt w6 kA),.not (.eq kA w6)]
abbrev waZ:List (Tq8 Cm):=[.b y6,.b qaf,.b qa3]
abbrev wav:List (Tq8 Cm):=waZ++[.l (.ret qaa j8 (qhw) j5 j6),.b qa6,.l (.ret qaa j8 (qh0) j5 j6),.b qa5]
abbrev wa0:List (Tq8 Cm):=[.l (.ret qaa j8 (qhd) j5 j6)]
abbrev wah:List (Tq8 Cm):=wa0++wa0
theorem dl4:rnC prog f102 asS [.one (.agg W9), .one (.c (.int .i64 s6))] true ⟨(V5 true asB).bs,[.not qa4, .not (.lt y5 kA), .not (.lt w6 kA), .not (.eq kA w6)]⟩=some (fq8 (wav++[.l (.ret qal j8 (qh1) j5 j6)]++wah++wa0) [(qh2)]):=by kernel_rfl
abbrev qh3:List (Nat × Tm):=⟨4,s8⟩::qhr
abbrev qh4:List (Nat × Tm):=⟨4,(.il 3)⟩::qhr
abbrev qh5:List Tm:=[.eq k4 u0,.not qbk,.not (.lt y5 kA),.not (.lt w6 kA),.eq kA w6,.not qgy]
abbrev waT:List (Tq8 Cm):=[.d qco,.b qcp,.b (.le F5 kA)]
abbrev wad:List (Tq8 Cm):=wa2++wa2
abbrev waO:List (Tq8 Cm):=[.l (.ret qaa j8 (qhy) j5 j6),.l (.ret qaa j8 (qhy) j5 j6)]
abbrev waf:List (Tq8 Cm):=[.b y6]++waT++[.b qaf,.l (.ret qaa j8 (qho) j5 j6),.l (.ret qaa j8 (qh3) j5 j6)]++wad++[.b qaf,.l (.ret qaa j8 (qho) j5 j6),.l (.ret qaa j8 (qh3) j5 j6)]++waT++[.l (.ret qaa j8 (qh4) j5 j6)]++waO++[.l (.ret qaa j8 (qh4) j5 j6)]
theorem c85:rnC prog f102 asS [.one (.agg W9), .one (.c (.int .i64 s6))] true ⟨(V5 true asB).bs,[qa4, .not qbk, .not (.lt y5 kA), .not (.lt w6 kA), .eq kA w6, .not (.eq sgL i9)]⟩=some (fq8 waf [(qh5)]):=by kernel_rfl
abbrev qh6:List Tm:=[.not (.lt y5 kA),.not (.lt w6 kA),.eq kA w6,.eq qan i9,.not (.lt w6 y4)]
theorem c84:rnC prog f102 asS [.one (.agg W9), .one (.c (.int .i64 s6))] true ⟨(V5 true asB).bs,[qa4, .not qbk, .not (.lt y5 kA), .not (.lt w6 kA), .eq kA w6, .eq sgL i9, .not (.lt w6 y4)]⟩=some (fq8 waf [((.eq k4 u0)::(.not qbk)::qh6)]):=by kernel_rfl
abbrev qh7:List Tm:=[.not (.lt y5 kA),.not (.lt w6 kA),.eq kA w6,.eq qan i9,.lt w6 y4,.not qeh]
theorem c83:rnC prog f102 asS [.one (.agg W9), .one (.c (.int .i64 s6))] true ⟨(V5 true asB).bs,[qa4, .not qbk, .not (.lt y5 kA), .not (.lt w6 kA), .eq kA w6, .eq sgL i9, .lt w6 y4, .not qeh]⟩=some (fq8 waf [((.eq k4 u0)::(.not qbk)::qh7)]):=by kernel_rfl
abbrev qis:List (Nat × Tm):=[⟨16,qaj⟩,⟨19,l6⟩,⟨21,i9⟩,⟨28,l6⟩,⟨35,qah⟩,⟨36,qah⟩]
abbrev qip:List (Nat × Tm):=⟨10,p7⟩::⟨11,s6⟩::⟨12,kA⟩::qis
abbrev qh8:List (Nat × Tm):=⟨4,(.il 5)⟩::qip
abbrev qh9:List (Nat × Tm):=⟨4,s8⟩::qip
abbrev qia:List (Nat × Tm):=⟨4,(.il 5)⟩::qis
abbrev qib:List (Nat × Tm):=⟨4,s8⟩::qis
abbrev qiy:List (Nat × Tm):=⟨16,qaj⟩::qhd
abbrev qiv:List (Nat × Tm):=⟨10,p7⟩::⟨11,s6⟩::⟨12,kA⟩::qiy
abbrev qic:List (Nat × Tm):=⟨4,(.il 5)⟩::qiv
abbrev qid:List (Nat × Tm):=⟨4,s8⟩::qiv
abbrev qie:List (Nat × Tm):=⟨4,(.il 5)⟩::qiy
abbrev qif:List (Nat × Tm):=⟨4,s8⟩::qiy
abbrev qig:List (Nat × Tm):=⟨4,(.il 3)⟩::qip
abbrev qih:List (Nat × Tm):=⟨4,(.il 3)⟩::qis
abbrev qii:List (Nat × Tm):=⟨4,(.il 3)⟩::qiv
abbrev qij:List (Nat × Tm):=⟨4,(.il 3)⟩::qiy
abbrev qik:List Tm:=[.not (.lt y5 kA),.not (.lt w6 kA),.eq kA w6,.eq qan i9,.lt w6 y4,.eq p7 A2]
abbrev wa3:List (Tq8 Cm):=[.l (.ret qaa j8 (qie) j5 j6),.l (.ret qaa j8 (qif) j5 j6),.b qaf]
abbrev waP:List (Tq8 Cm):=[.b qaf]++wa3
theorem c82:rnC prog f102 asS [.one (.agg W9), .one (.c (.int .i64 s6))] true ⟨(V5 true asB).bs,[qa4, .not qbk, .not (.lt y5 kA), .not (.lt w6 kA), .eq kA w6, .eq sgL i9, .lt w6 y4, .eq p7 A2]⟩=some (fq8 ([.b y6,.b qff]++waT++[.b qaf,.l (.ret qaa j8 (qh8) j5 j6),.l (.ret qaa j8 (qh9) j5 j6),.b qaf,.l (.ret qaa j8 (qia) j5 j6),.l (.ret qaa j8 (qib) j5 j6),.b qaf,.l (.ret qaa j8 (qia) j5 j6),.l (.ret qaa j8 (qib) j5 j6),.b qaf,.l (.ret qaa j8 (qh8) j5 j6),.l (.ret qaa j8 (qh9) j5 j6)]++waT++[.b qaf,.l (.ret qaa j8 (qic) j5 j6),.l (.ret qaa j8 (qid) j5 j6)]++waP++wa3++[.l (.ret qaa j8 (qic) j5 j6),.l (.ret qaa j8 (qid) j5 j6),.b qff]++waT++[.l (.ret qaa j8 (qig) j5 j6),.l (.ret qaa j8 (qih) j5 j6),.l (.ret qaa j8 (qih) j5 j6),.l (.ret qaa j8 (qig) j5 j6)]++waT++[.l (.ret qaa j8 (qii) j5 j6),.l (.ret qaa j8 (qij) j5 j6),.l (.ret qaa j8 (qij) j5 j6),.l (.ret qaa j8 (qii) j5 j6)]) [((.eq k4 u0)::(.not qbk)::qik)]):=by kernel_rfl
abbrev qil:List (Nat × Tm):=⟨4,(.il 9)⟩::⟨10,p7⟩::⟨11,s6⟩::⟨12,kA⟩::⟨17,qav⟩::qhd
abbrev qim:List Tm:=[.not qa4,.not (.lt y5 kA),.not (.lt w6 kA),.eq kA w6,.not qgy]
abbrev waN:List (Tq8 Cm):=waZ++[.l (.ret qaa j8 (qho) j5 j6),.b qa6,.l (.ret qaa j8 (qil) j5 j6),.b qa5,.l (.ret qal j8 (qhq) j5 j6),.l (.ret qaa j8 (qhr) j5 j6),.l (.ret qaa j8 (qhr) j5 j6),.l (.ret qaa j8 (qhr) j5 j6)]
abbrev wab:List (Tq8 Cm):=waT++waN++wav++[.l (.ret qal j8 (qh1) j5 j6)]++wah++wa0++wav++[.l (.ret qal j8 (qh1) j5 j6)]++wah++wa0++waN
theorem c89:rnC prog f102 asS [.one (.agg W9), .one (.c (.int .i64 s6))] true ⟨(V5 true asB).bs,[.not qa4, .not (.lt y5 kA), .not (.lt w6 kA), .eq kA w6, .not (.eq sgL i9)]⟩=some (fq8 wab [(qim)]):=by kernel_rfl
theorem c88:rnC prog f102 asS [.one (.agg W9), .one (.c (.int .i64 s6))] true ⟨(V5 true asB).bs,[.not qa4, .not (.lt y5 kA), .not (.lt w6 kA), .eq kA w6, .eq sgL i9, .not (.lt w6 y4)]⟩=some (fq8 wab [((.not qa4)::qh6)]):=by kernel_rfl
theorem c87:rnC prog f102 asS [.one (.agg W9), .one (.c (.int .i64 s6))] true ⟨(V5 true asB).bs,[.not qa4, .not (.lt y5 kA), .not (.lt w6 kA), .eq kA w6, .eq sgL i9, .lt w6 y4, .not qeh]⟩=some (fq8 wab [((.not qa4)::qh7)]):=by kernel_rfl
abbrev qin:List (Nat × Tm):=[⟨4,(.il 9)⟩,⟨10,p7⟩,⟨11,s6⟩,⟨12,kA⟩,⟨16,qaj⟩,⟨17,qav⟩,⟨19,l6⟩,⟨21,i9⟩,⟨28,l6⟩,⟨35,qah⟩,⟨36,qah⟩]
abbrev qio:List (Nat × Tm):=⟨4,i9⟩::⟨5,i9⟩::qip
abbrev qiq:List (Nat × Tm):=[⟨4,(.il 9)⟩,⟨16,qaj⟩,⟨17,qav⟩,⟨19,l6⟩,⟨21,i9⟩,⟨28,l6⟩,⟨35,qah⟩,⟨36,qah⟩]
abbrev qir:List (Nat × Tm):=⟨4,i9⟩::⟨5,i9⟩::qis
abbrev qit:List (Nat × Tm):=⟨4,(.il 9)⟩::⟨10,p7⟩::⟨11,s6⟩::⟨12,kA⟩::⟨16,qaj⟩::⟨17,qav⟩::qhd
abbrev qiu:List (Nat × Tm):=⟨4,i9⟩::⟨5,i9⟩::qiv
abbrev qiw:List (Nat × Tm):=⟨4,(.il 9)⟩::⟨16,qaj⟩::⟨17,qav⟩::qhd
abbrev qix:List (Nat × Tm):=⟨4,i9⟩::⟨5,i9⟩::qiy
abbrev waJ:List (Tq8 Cm):=waZ++[.l (.ret qaa j8 (qh8) j5 j6),.b qa6,.l (.ret qaa j8 (qin) j5 j6),.b qa5,.l (.ret qal j8 (qio) j5 j6),.l (.ret qaa j8 (qip) j5 j6),.l (.ret qaa j8 (qip) j5 j6),.l (.ret qaa j8 (qip) j5 j6)]
abbrev waR:List (Tq8 Cm):=[.l (.ret qaa j8 (qia) j5 j6),.b qa6,.l (.ret qaa j8 (qiq) j5 j6),.b qa5,.l (.ret qal j8 (qir) j5 j6),.l (.ret qaa j8 (qis) j5 j6),.l (.ret qaa j8 (qis) j5 j6),.l (.ret qaa j8 (qis) j5 j6)]
abbrev waF:List (Tq8 Cm):=waZ++waR++waZ
abbrev waK:List (Tq8 Cm):=waZ++[.l (.ret qaa j8 (qic) j5 j6),.b qa6,.l (.ret qaa j8 (qit) j5 j6),.b qa5,.l (.ret qal j8 (qiu) j5 j6),.l (.ret qaa j8 (qiv) j5 j6),.l (.ret qaa j8 (qiv) j5 j6),.l (.ret qaa j8 (qiv) j5 j6)]
abbrev waz:List (Tq8 Cm):=waZ++[.l (.ret qaa j8 (qie) j5 j6),.b qa6,.l (.ret qaa j8 (qiw) j5 j6),.b qa5]
abbrev wa8:List (Tq8 Cm):=[.l (.ret qaa j8 (qiy) j5 j6)]
abbrev wau:List (Tq8 Cm):=wa8++wa8
theorem c86:rnC prog f102 asS [.one (.agg W9), .one (.c (.int .i64 s6))] true ⟨(V5 true asB).bs,[.not qa4, .not (.lt y5 kA), .not (.lt w6 kA), .eq kA w6, .eq sgL i9, .lt w6 y4, .eq p7 A2]⟩=some (fq8 ([.b qff]++waT++waJ++waF++waR++waJ++waT++waK++waz++[.l (.ret qal j8 (qix) j5 j6)]++wau++wa8++waz++[.l (.ret qal j8 (qix) j5 j6)]++wau++wa8++waK) [((.not qa4)::qik)]):=by kernel_rfl
namespace Cn
def wSt(c:Cn)(v:Int):Cn:= { c with st:=v }
theorem cA7{c:Cn}{g:Sg}(h:c.Z2 g)(at_:Int):c.Z4 g at_=c/\c.aE9 g at_=false/\c.aC5 g=[g.ak]:=by
 unfold Z4 aE9 aC5;rw[if_pos h,if_pos h,if_pos h];exact⟨rfl,rfl,rfl⟩
theorem cA6{c:Cn}{g:Sg}(h:¬c.Z2 g)(h2:c.snt<c.B5 g)(at_:Int):c.Z4 g at_= { c.up with owed:=true }/\c.aE9 g at_=false/\c.aC5 g=[]:=by
 unfold Z4 aE9 aC5;rw[if_neg h,if_neg h,if_neg h,if_pos h2,if_pos h2];exact⟨rfl,rfl,rfl⟩
theorem aE8{c:Cn}{g:Sg}(h:¬c.Z2 g)(h2:¬c.snt<c.B5 g)(at_:Int):c.Z4 g at_=(c.aW9 g at_).aJ0/\c.aE9 g at_=(c.aW9 g at_).aP9/\c.aC5 g=[]:=by
 unfold Z4 aE9 aC5;rw[if_neg h,if_neg h,if_neg h,if_neg h2,if_neg h2];exact⟨rfl,rfl,rfl⟩
theorem aj7{c:Cn}(h:¬c.st=2):c.up=c:=by unfold up;rw[if_neg h]
theorem ar7{c:Cn}(h:c.st=2)(hs:c.shut=true):c.up=c.wSt 4:=by unfold up wSt;rw[if_pos h,if_pos hs]
theorem ar8{c:Cn}(h:c.st=2)(hs:¬c.shut=true):c.up=c.wSt 3:=by unfold up wSt;rw[if_pos h,if_neg hs]
theorem aN7{c:Cn}(h:¬c.shut=true):c.aJ0=c/\c.aP9=true:=by
 unfold aJ0 aP9;rw[if_neg fun q=>h q.1,bc.2 h];exact⟨rfl,rfl⟩
theorem aN6{c:Cn}(hs:c.shut=true)(h:¬c.una=(c.all.size:Int)+2):c.aJ0=c/\c.aP9=true:=by
 have e:¬c.una=c.fen:=by unfold fen;rw[hs];unfold b2;simp only[if_true];omega
 unfold aJ0 aP9;rw[if_neg fun q=>e q.2,aH e];exact⟨rfl,by simp⟩
theorem be3{c:Cn}(hs:c.shut=true)(h:c.una=(c.all.size:Int)+2):c.una=c.fen:=by unfold fen;rw[hs];unfold b2;simp only[if_true];omega
theorem aN8{c:Cn}(hs:c.shut=true)(h:c.una=(c.all.size:Int)+2)(h4:c.st=4):c.aJ0= { c with st:=5 }/\c.aP9=true:=by
 unfold aJ0 aP9;rw[if_pos ⟨hs,be3 hs h⟩,if_pos h4,h4];exact⟨rfl,by simp⟩
theorem ak2{c:Cn}(hs:c.shut=true)(h:c.una=(c.all.size:Int)+2)(h4:c.st=7):c.aJ0= { c with st:=9,ends:=c.now+20 }/\c.aP9=true:=by
 unfold aJ0 aP9;rw[if_pos ⟨hs,be3 hs h⟩,if_neg U,if_pos h4,h4];exact⟨rfl,by simp⟩
theorem ak1{c:Cn}(hs:c.shut=true)(h:c.una=(c.all.size:Int)+2)(h4:c.st=8):c.aJ0= { c with st:=0 }/\c.aP9=false:=by
 unfold aJ0 aP9;rw[if_pos ⟨hs,be3 hs h⟩,if_neg U,if_neg U,if_pos h4,h4,hs,aD (be3 hs h)];exact⟨rfl,rfl⟩
theorem ak0{c:Cn}(hs:c.shut=true)(h:c.una=(c.all.size:Int)+2)(h4:¬c.st=4)(h7:¬c.st=7)(h8:¬c.st=8):c.aJ0=c/\c.aP9=true:=by
 unfold aJ0 aP9;rw[if_pos ⟨hs,be3 hs h⟩,if_neg h4,if_neg h7,if_neg h8,aH h8];exact⟨rfl,by simp⟩
theorem cs6{c:Cn}{g:Sg}{at_:Int}(h1:¬c.una<c.B5 g)(h2:¬c.B5 g=c.una)(hu:c.up.una=c.una):c.aW9 g at_=c.up:=by
 have e:c.up.ag7 g (c.B5 g)=c.up:=by
  unfold ag7;rw[hu,if_neg h1,if_neg (fun q=>h2 q.1)]
 unfold aW9;rw[e];unfold ag6;rw[if_neg U]
theorem cs7{c:Cn}{g:Sg}{at_:Int}(h1:c.una<c.B5 g)(hu:c.up.una=c.una):c.aW9 g at_= { (c.up).V7 (c.B5 g)with wnd:=g.win,wat:=at_,wak:=c.B5 g }:=by
 have e:c.up.ag7 g (c.B5 g)=c.up.V7 (c.B5 g):=by
  unfold ag7;rw[hu,if_pos h1]
 unfold aW9;rw[e];unfold ag6;rw[if_pos (.inl h1)]
theorem be2(c:Cn):c.up.una=c.una:=by unfold up;split<;>rfl
theorem cs8{c:Cn}{g:Sg}(h:c.B5 g=c.una)(hd:¬(g.len=0/\c.una<c.cur/\g.win=c.wnd)):c.up.ag7 g (c.B5 g)=c.up:=by
 have e:c.up.una=c.una/\c.up.cur=c.cur/\c.up.wnd=c.wnd:=by unfold up;split<;>exact⟨rfl,rfl,rfl⟩
 unfold ag7;rw[e.1,e.2.1,e.2.2,if_neg U,if_neg (fun q=>hd q.2)]
theorem cs9{c:Cn}{g:Sg}(h:c.B5 g=c.una)(hd:g.len=0/\c.una<c.cur/\g.win=c.wnd):c.up.ag7 g (c.B5 g)=c.up.dup:=by
 have e:c.up.una=c.una/\c.up.cur=c.cur/\c.up.wnd=c.wnd:=by unfold up;split<;>exact⟨rfl,rfl,rfl⟩
 unfold ag7;rw[e.1,e.2.1,e.2.2,if_neg U,if_pos ⟨h,hd⟩]
theorem bH9(c:Cn):c.up.wat=c.wat/\c.up.wak=c.wak:=by unfold up;split<;>exact⟨rfl,rfl⟩
theorem bv0(c:Cn):c.dup.wat=c.wat/\c.dup.wak=c.wak:=by unfold dup;split<;>exact⟨rfl,rfl⟩
theorem aQ8{c:Cn}{g:Sg}{at_:Int}(h:c.B5 g=c.una)(hd:¬(g.len=0/\c.una<c.cur/\g.win=c.wnd))(hf:c.wat<at_\/(at_=c.wat/\c.wak<=c.B5 g)):c.aW9 g at_= { c.up with wnd:=g.win,wat:=at_,wak:=c.B5 g }:=by
 unfold aW9;rw[cs8 h hd];unfold ag6;rw[(bH9 c).1,(bH9 c).2,if_pos (.inr ⟨h,hf⟩)]
theorem aQ7{c:Cn}{g:Sg}{at_:Int}(h:c.B5 g=c.una)(hd:¬(g.len=0/\c.una<c.cur/\g.win=c.wnd))(hf:¬(c.wat<at_\/(at_=c.wat/\c.wak<=c.B5 g))):c.aW9 g at_=c.up:=by
 unfold aW9;rw[cs8 h hd];unfold ag6;rw[(bH9 c).1,(bH9 c).2,if_neg (fun q=>q.elim U fun q=>hf q.2)]
theorem bM8{c:Cn}{g:Sg}{at_:Int}(h:c.B5 g=c.una)(hd:g.len=0/\c.una<c.cur/\g.win=c.wnd)(hf:c.wat<at_\/(at_=c.wat/\c.wak<=c.B5 g)):c.aW9 g at_= { c.up.dup with wnd:=g.win,wat:=at_,wak:=c.B5 g }:=by
 unfold aW9;rw[cs9 h hd];unfold ag6;rw[(bv0 _).1,(bv0 _).2,(bH9 c).1,(bH9 c).2,if_pos (.inr ⟨h,hf⟩)]
theorem bM7{c:Cn}{g:Sg}{at_:Int}(h:c.B5 g=c.una)(hd:g.len=0/\c.una<c.cur/\g.win=c.wnd)(hf:¬(c.wat<at_\/(at_=c.wat/\c.wak<=c.B5 g))):c.aW9 g at_=c.up.dup:=by
 unfold aW9;rw[cs9 h hd];unfold ag6;rw[(bv0 _).1,(bv0 _).2,(bH9 c).1,(bH9 c).2,if_neg (fun q=>q.elim U fun q=>hf q.2)]
theorem bv2{c:Cn}(h:c.same+1=3):c.dup= { c with same:=c.same+1,cs:=aC3 c.cm (c.cur - c.una),cz:=aC3 c.cm (c.cur - c.una),again:=true,meas:=0 }:=by unfold dup;rw[if_pos h]
theorem bv1{c:Cn}(h:¬c.same+1=3):c.dup= { c with same:=c.same+1 }:=by unfold dup;rw[if_neg h]
end Cn
theorem bI2{J:Env}(hf:J.f=cnF)(Y y z:Tm):B4 J (.ap 122 Y y z)=(B4 J Y).V7 (u9 J y).i:=by
 unfold B4;rw[F3 hf];exact U7 _
theorem y_4{J:Env}(hf:J.f=cnF)(Y v:Tm):B4 J (.ap 91 s8 Y v)=(B4 J Y).wSt (u9 J v).i:=d_4 hf Y v
theorem cF5{c:Cn}{b:Bool}(h:c.has=b): { c with has:=b } =c:=by
 subst h;rfl
theorem ac4{J:Env}(hf:J.f=cnF){Y:Tm}{b:Bool}(h:(B4 J Y).has=b):B4 J (.ap 92 o6 Y (.bl b))=B4 J Y:=(X9 hf Y (.bl b)).trans (cF5 h)
theorem V4(X:Cs)(is:List Int)(bs:List Bool)(ss:List ByteArray):B4 (H8 X is bs ss) j8=X.c:=U7 _
theorem aC1{c:Cn}{b:Bool}{J:Env}(h:c.has=b):Z7 c 28 (u9 J (.bl b))=c:=cF5 h
theorem cxF{J:Env}{bs:List Bd}{l:List Tm}(h:X5 J bs)(hl:∀ t∈l,(u9 J t).b=true):(⟨bs,l⟩:Cx).ok J:=⟨h,hl⟩
theorem a73{J:Env}:∀{l:List Tm},A6 J l->∀ t∈l,(u9 J t).b=true
 | [],_,t,h=>by cases h
 | x::l,hp,t,h=>by
   rcases aa.1 h with rfl|h
   .exact hp.1
   .exact a73 hp.2 t h
theorem aY0(X:Cs)(n:Int):rsL (Y3 X.R++[[.int .u32 n]])=X.R++[n]:=by
 have:Y3 X.R++[[.int .u32 n]]=Y3 (X.R++[n]):=by unfold Y3;rw[bb];rfl
 rw[this,A4]
theorem eE3{J:Env}(E:CnEnv J):∀ q∈asS,q.Ok prog J:=by
 intro q hq;rcases aa.1 hq with rfl|hq
 .exact cl7 E
 .exact aR0 E q hq
end Go.Proofs.YtnlcpcmdlcakgaaGreat
