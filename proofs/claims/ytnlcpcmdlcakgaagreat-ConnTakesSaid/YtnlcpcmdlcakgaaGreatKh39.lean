/- A part of the proof that a connection answers as the document says: Co3. -/
import Derived.Test.YtnlcpcmdlcakgaaGreatKh35
set_option maxRecDepth 100000
set_option maxHeartbeats 4000000
set_option linter.unusedVariables false
set_option linter.unusedSimpArgs false
set_option linter.unusedSectionVars false
open Go.Proofs.Tryz
namespace Go.Proofs.YtnlcpcmdlcakgaaGreat
open Go.RowKit Sy
def peS:List Sy.Spec:=af6 seG::pcS
def iI0:SV:= .one (.c (.int .i64 j9))
def kWn:Tm:= .ap 116 ouK l7 i9
abbrev qcc:Tm:= .le (.add (.len y8) (.len (.cut l7 i9 kWn))) (.il 4503599627370496)
def kWa:Tm:= .app y8 (.cut l7 i9 kWn)
abbrev qcz:Tm:= .ap 120 (.ap 92 o6 (.ap 93 (.il 27) j8 kWa) l4) i9 i9
abbrev qc6:Tm:= .ap 120 (.ap 92 o6 (.ap 93 (.il 27) j8 kWa) l6) i9 i9
def kRm:Tm:= .ap 115 ouK i9 i9
abbrev qd9:Tm:= .lt i9 kRm
def kRy:Tm:= .ap 131 j5 k29 i9
abbrev qgj:Tm:= .lt i9 kRy
def kRd:Tm:= .tb qax k29 (.tb qax j9 qao i9) i9
def K6:Tm:= .add V8 j9
abbrev qap:Tm:= .ap 91 (.il 15) (.ap 91 (.il 14) (.ap 91 (.il 13) j8 K6) K6) (.add Y0 l9)
abbrev qa8:Tm:= .ap 120 (.ap 92 o6 (.ap 91 (.il 13) j8 K6) l4) i9 i9
abbrev qba:Tm:= .ap 120 (.ap 92 o6 (.ap 91 (.il 13) j8 K6) l6) i9 i9
abbrev qbb:Tm:= .ap 91 (.il 36) (.ap 91 (.il 35) (.ap 91 (.il 33) (.ap 92 o6 (.ap 91 (.il 25) (.ap 91 (.il 21) qap i9) w6) l6) (.ap 107 k33 i9 i9)) I6) qah
abbrev qbl:Tm:= .ap 91 (.il 33) (.ap 92 o6 (.ap 91 (.il 25) (.ap 91 (.il 21) qap i9) w6) l4) (.ap 107 k33 i9 i9)
abbrev qbs:Tm:= .ap 91 (.il 13) (.ap 91 (.il 5) qar (.il 13)) K6
abbrev qbt:Tm:= .ap 91 (.il 33) (.ap 92 o6 (.ap 92 (.il 20) qap l6) l4) (.ap 107 k33 i9 i9)
abbrev qbv:Tm:= .ap 91 (.il 33) (.ap 92 o6 (.ap 92 (.il 20) qap l6) l6) (.ap 107 k33 i9 i9)
abbrev qcx:Tm:= .ap 120 (.ap 92 o6 qbs l4) i9 i9
abbrev qcy:Tm:= .ap 120 (.ap 92 o6 qbs l6) i9 i9
abbrev qe3:Tm:= .ap 120 (.ap 92 o6 (.ap 91 (.il 13) qar K6) l4) i9 i9
abbrev qe5:Tm:= .ap 120 (.ap 92 o6 (.ap 91 (.il 13) qar K6) l6) i9 i9
abbrev qf8:Tm:= .ap 120 (.ap 91 (.il 37) qbv i9) i9 i9
abbrev qf9:Tm:= .ap 120 (.ap 91 (.il 37) qbt i9) i9 i9
abbrev qga:Tm:= .ap 120 (.ap 91 (.il 37) qbl i9) i9 i9
abbrev qgb:Tm:= .ap 120 (.ap 91 (.il 37) qbb i9) i9 i9
def kTv:Tm:= .ap 102 k31 k32 k33
abbrev qfo:Tm:= .le kTv (.sub K6 T6)
def kTb:Tm:= .lt (.sub qck V8) j9
def mqB:List Bd:=[⟨L7 j6,0,1099511627760⟩,⟨.len y8,0,4503599627360000⟩]
def i6B:List Bd:=[⟨.iv 0,-9223372036854775808,9223372036854775807⟩]
def tgB:List Bd:=[⟨.iv 0,0,1099511627776⟩,⟨.add V8 j9,0,1099511627776⟩]
def s0B:List Bd:=[⟨.len l7,0,9223372036854775807⟩]
theorem dU4:rnC prog f25 peS [iI0] false ⟨(V5 false (mqB++i6B)).bs,[.lt j9 i9]⟩=some [(.ret qas j8 (qhb) j5 j6 [qb1])]:=by kernel_rfl
theorem dU3:rnC prog f25 peS [iI0] true ⟨(V5 true (mqB++i6B)).bs,[.lt j9 i9]⟩=some [(.ret qas j8 (qhd) j5 j6 [qb1])]:=by kernel_rfl
theorem dU2:rnC prog f25 peS [iI0] false ⟨(V5 false (mqB++i6B)).bs,[.not qb1,kTb]⟩=some [(.ret qas j8 (qhb) j5 j6 [(.not qb1),kTb])]:=by kernel_rfl
theorem dU1:rnC prog f25 peS [iI0] true ⟨(V5 true (mqB++i6B)).bs,[.not qb1,kTb]⟩=some [(.ret qas j8 (qhd) j5 j6 [(.not qb1),kTb])]:=by kernel_rfl
abbrev wbm:List (Tq8 Cm):=[.b qbg,.b (.le k17 K6)]
abbrev wbe:List (Tq8 Cm):=[.l (.ret qad qa8 (qhb) j5 j6)]
abbrev waH:List (Tq8 Cm):=[.b qg0,.b qfo,.b qeg,.l (.ret qad qcx (qhb) j5 j6),.b qfg,.l (.ret qad (.ap 120 qbt i9 i9) (qhb) j5 j6),.l (.ret qad (.ap 120 qbl i9 i9) (qhb) j5 j6)]++wbe++wbe
theorem dT9:rnC prog f25 peS [iI0] false ⟨(V5 false (mqB++tgB)).bs,[.not qb1, .not kTb]⟩=some (fq8 (wbm++[.l (.ret qad (.ap 120 (.ap 92 o6 (.ap 91 (.il 13) qd6 K6) l4) i9 i9) (qhb) j5 j6)]++waH++waH) [[.not qb1,.not kTb]]):=by kernel_rfl
abbrev wbf:List (Tq8 Cm):=[.l (.ret qad qba (qhd) j5 j6)]
abbrev waI:List (Tq8 Cm):=[.b qg0,.b qfo,.b qeg,.l (.ret qad qcy (qhd) j5 j6),.b qfg,.l (.ret qad (.ap 120 qbv i9 i9) (qhd) j5 j6),.l (.ret qad (.ap 120 qbb i9 i9) (qhd) j5 j6)]++wbf++wbf
theorem dT8:rnC prog f25 peS [iI0] true ⟨(V5 true (mqB++tgB)).bs,[.not qb1, .not kTb]⟩=some (fq8 (wbm++[.l (.ret qad (.ap 120 (.ap 92 o6 (.ap 91 (.il 13) qd6 K6) l6) i9 i9) (qhd) j5 j6)]++waI++waI) [[.not qb1,.not kTb]]):=by kernel_rfl
abbrev wbk:List (Tq8 Cm):=[.l (.ret (.tup [(.c (.int .i64 i9)),(.c (.int .i64 (.il 17)))]) j8 (qhb) j5 j6)]
abbrev waA:List (Tq8 Cm):=[.b qaw,.d qdc,.l (.ret (.tup [(.c (.int .i64 i9)),(.c (.int .i64 k5))]) j8 (qhb) j5 j6)]++wbk++[.b y6]++wbk++[.p]
theorem dT2:rnC prog f27 peS [.one (.c (.str l7))] false (V5 false (mqB++s0B))=some (fq8 (waA++[.l (.must qcc),.a qcc,.b (.eq kWn i9),.d qgu,.l (.ret (.tup [(.c (.int .i64 i9)),(.c (.int .i64 (.il 14)))]) qcz (qhb) j5 j6),.l (.ret (.tup [(.c (.int .i64 kWn)),(.c (.int .i64 i9))]) qcz (qhb) j5 j6),.l (.ret (.tup [(.c (.int .i64 kWn)),(.c (.int .i64 i9))]) qcz (qhb) j5 j6)]) [[]]):=by kernel_rfl
abbrev wbl:List (Tq8 Cm):=[.l (.ret (.tup [(.c (.int .i64 i9)),(.c (.int .i64 (.il 17)))]) j8 (qhd) j5 j6)]
abbrev waB:List (Tq8 Cm):=[.b qaw,.d qdc,.l (.ret (.tup [(.c (.int .i64 i9)),(.c (.int .i64 k5))]) j8 (qhd) j5 j6)]++wbl++[.b y6]++wbl++[.p]
theorem dS9:rnC prog f27 peS [.one (.c (.str l7))] true (V5 true (mqB++s0B))=some (fq8 (waB++[.l (.must qcc),.a qcc,.b (.eq kWn i9),.d qgu,.l (.ret (.tup [(.c (.int .i64 i9)),(.c (.int .i64 (.il 14)))]) qc6 (qhd) j5 j6),.l (.ret (.tup [(.c (.int .i64 kWn)),(.c (.int .i64 i9))]) qc6 (qhd) j5 j6),.l (.ret (.tup [(.c (.int .i64 kWn)),(.c (.int .i64 i9))]) qc6 (qhd) j5 j6)]) [[]]):=by kernel_rfl
abbrev wbd:List (Tq8 Cm):=[.d qaw,.l (.ret (.tup [(.c (.str p9)),(.c (.bool l4)),(.c (.int .i64 (.il 14)))]) j8 (qhb) j5 j6)]
theorem dX3:rnC prog f29 peS [iI0] false (V5 false (mqB++i6B))=some (fq8 (wbd++[.d qdc,.l (.ret (.tup [(.c (.str p9)),(.c (.bool l4)),(.c (.int .i64 k5))]) j8 (qhb) j5 j6),.l (.ret (.tup [(.c (.str p9)),(.c (.bool l6)),(.c (.int .i64 i9))]) j8 (qhb) j5 j6)]) [[]]):=by kernel_rfl
abbrev qi2:List (Nat × Tm):=[⟨28,l6⟩,⟨29,(.ap 58 j5 kRd i9)⟩]
abbrev wbj:List (Tq8 Cm):=[.l (.ret (.tup [(.c (.str p9)),(.c (.bool l6)),(.c (.int .i64 i9))]) j8 (qhd) j5 j6)]
abbrev way:List (Tq8 Cm):=[.b qgj,.l (.ret (.tup [(.c (.str (.ap 55 j5 kRd i9))),(.c (.bool l4)),(.c (.int .i64 i9))]) j8 (qi2) j5 j6),.b qcn]++wbj++[.d qaw,.l (.ret (.tup [(.c (.str p9)),(.c (.bool l4)),(.c (.int .i64 (.il 14)))]) j8 (qhd) j5 j6)]
theorem dX2:rnC prog f29 peS [iI0] true (V5 true (mqB++i6B))=some (fq8 (way++[.d qdc,.l (.ret (.tup [(.c (.str p9)),(.c (.bool l4)),(.c (.int .i64 k5))]) j8 (qhd) j5 j6)]++wbj) [[]]):=by kernel_rfl
abbrev wa9:List (Tq8 Cm):=[.l (.ret qad j8 (qhb) j5 j6)]
theorem dV9:rnC prog f36 peS [] false (V5 false mqB)=some (fq8 ([.d qaw,.d qcw,.b qdi,.b qd9,.l (.ret qbd j8 (qhb) j5 j6)]++wa9++wa9++[.b qd9,.l (.ret qbd j8 (qhb) j5 j6)]++wa9++[.d qdc,.l (.ret (.one (.c (.int .i64 (.il 5)))) j8 (qhb) j5 j6),.l (.ret qas j8 (qhb) j5 j6)]) [[]]):=by kernel_rfl
abbrev waQ:List (Tq8 Cm):=[.l (.ret qas j8 (qhd) j5 j6)]
abbrev wbc:List (Tq8 Cm):=[.b qd9,.l (.ret qep j8 (qhd) j5 j6)]++waQ
theorem dV8:rnC prog f36 peS [] true (V5 true mqB)=some (fq8 ([.d qaw,.d qgj,.b qcn,.d qcw,.b qdi]++wbc++waQ++wbc++[.d qcw,.b qdi,.b qd9,.l (.ret qbd j8 (qhd) j5 j6),.l (.ret qad j8 (qhd) j5 j6),.l (.ret qad j8 (qhd) j5 j6),.b qd9,.l (.ret qbd j8 (qhd) j5 j6),.l (.ret qad j8 (qhd) j5 j6),.d qcw,.b qdi]++wbc++waQ++wbc++[.d qdc,.l (.ret (.one (.c (.int .i64 (.il 5)))) j8 (qhd) j5 j6)]++waQ) [[]]):=by kernel_rfl
abbrev wbh:List (Tq8 Cm):=[.b qaw,.l (.ret qbu j8 (qhb) j5 j6)]
abbrev wba:List (Tq8 Cm):=[.b qcw,.l (.ret qad qfu (qhb) j5 j6),.b qdi,.l (.ret qad qfv (qhb) j5 j6),.l (.ret qad qft (qhb) j5 j6)]
theorem dh5:rnC prog f31 peS [] false (V5 false mqB)=some (fq8 (wbh++[.b y6,.l (.ret qeo j8 (qhb) j5 j6),.b qb8,.l (.ret qad (.ap 120 (.ap 92 o6 qd6 l4) i9 i9) (qhb) j5 j6)]++wba) [[]]):=by kernel_rfl
abbrev wbi:List (Tq8 Cm):=[.b qaw,.l (.ret qbu j8 (qhd) j5 j6)]
abbrev wbb:List (Tq8 Cm):=[.b qcw,.l (.ret qad qfz (qhd) j5 j6),.b qdi,.l (.ret qad qf0 (qhd) j5 j6),.l (.ret qad qfw (qhd) j5 j6)]
theorem dh4:rnC prog f31 peS [] true (V5 true mqB)=some (fq8 (wbi++[.b y6,.l (.ret qeo j8 (qhd) j5 j6),.b qb8,.l (.ret qad qfx (qhd) j5 j6)]++wbb) [[]]):=by kernel_rfl
theorem dk9:rnC prog f33 peS [] false (V5 false mqB)=some (fq8 (wbh++[.b qb8,.l (.ret qad qbh (qhb) j5 j6),.b qbg,.l (.ret qad qbh (qhb) j5 j6),.l (.ret qad qbh (qhb) j5 qbn)]) [[]]):=by kernel_rfl
theorem dk8:rnC prog f33 peS [] true (V5 true mqB)=some (fq8 (wbi++[.b qb8,.l (.ret qad qbi (qhd) j5 j6),.b qbg,.l (.ret qad qbi (qhd) j5 j6),.l (.ret qad qbi (qhd) j5 qbn)]) [[]]):=by kernel_rfl
end Go.Proofs.YtnlcpcmdlcakgaaGreat
