/- A part of the proof that a connection answers as the document says: Cd7. -/
import Derived.Test.YtnlcpcmdlcakgaaGreatKh39
set_option maxRecDepth 100000
set_option maxHeartbeats 4000000
set_option linter.unusedVariables false
set_option linter.unusedSimpArgs false
set_option linter.unusedSectionVars false
open Go.Proofs.Tryz
namespace Go.Proofs.YtnlcpcmdlcakgaaGreat
open Go.RowKit Sy
def deS:List Sy.Spec:=af7 dlG::dcS
def tdB:List Bd:=[⟨.iv 0,0,1099511627776⟩,⟨.add V8 j9,0,1099511627776⟩,⟨.sub (.add V8 j9) k22,0,1099511627776⟩]
def tzB:List Bd:=[⟨.iv 0,0,1099511627776⟩]
def kU1:Tm:= .ite (.lt i9 (.add w6 (.il (-1)))) (.add w6 (.il (-1))) i9
def kLm:Tm:= .ite (.lt kU1 (.len y8)) kU1 (.len y8)
def kRo:Tm:= .sub o7 (.sub (.len y8) kLm)
abbrev qb3:Tm:= .mul u0 (.ite (.lt i9 kRo) l9 i9)
abbrev qfl:SV:= .one (.c (.int .i64 (.add (.ite qcn l9 i9) qb3)))
abbrev qgz:SV:= .one (.c (.int .i64 (.add qb3 l9)))
def kDn:Tm:= .ite (.lt kRo qbo) kRo qbo 
abbrev qdd:Tm:= .le (.add (.len y8) kDn) (.il 4503599627370496)
abbrev qeu:Tm:= .le (.add (.len y8) kDn) qb2
abbrev qgm:Tm:= .le i9 kDn
def kDa:Tm:= .app y8 (.cut l7 i9 kDn)
abbrev qc0:Tm:= .ap 120 (.ap 92 o6 (.ap 93 (.il 27) j8 kDa) l4) i9 i9
abbrev qc7:Tm:= .ap 120 (.ap 92 o6 (.ap 93 (.il 27) j8 kDa) l6) i9 i9
theorem c27:rnD prog f26 deS [iI0] false ⟨(V5 false (mqB++i6B)).bs,[.lt j9 i9]⟩=some [(.ret qas j8 (qhb) j5 j6 [qb1])]:=by kernel_rfl
theorem c26:rnD prog f26 deS [iI0] true ⟨(V5 true (mqB++i6B)).bs,[.lt j9 i9]⟩=some [(.ret qas j8 (qhd) j5 j6 [qb1])]:=by kernel_rfl
theorem c25:rnD prog f26 deS [iI0] false ⟨(V5 false (mqB++i6B)).bs,[.not qb1, .lt qck j9]⟩=some [(.ret qas j8 (qhb) j5 j6 [(.not qb1),(.lt qck j9)])]:=by kernel_rfl
theorem c24:rnD prog f26 deS [iI0] true ⟨(V5 true (mqB++i6B)).bs,[.not qb1, .lt qck j9]⟩=some [(.ret qas j8 (qhd) j5 j6 [(.not qb1),(.lt qck j9)])]:=by kernel_rfl
theorem c23:rnD prog f26 deS [iI0] false ⟨(V5 false (mqB++tzB)).bs,[.lt qck K6]⟩=some [(.ret qas j8 (qhb) j5 j6 [(.lt qck K6)])]:=by kernel_rfl
theorem c22:rnD prog f26 deS [iI0] true ⟨(V5 true (mqB++tzB)).bs,[.lt qck K6]⟩=some [(.ret qas j8 (qhd) j5 j6 [(.lt qck K6)])]:=by kernel_rfl
theorem c32:rnD prog f26 deS [iI0] false ⟨(V5 false (mqB++tdB)).bs,[.lt T6 i9]⟩=some (fq8 (wbm++[.l (.ret qad qe3 (qhb) j5 j6)]++wbe++wbe) [[.lt T6 i9]]):=by kernel_rfl
theorem c31:rnD prog f26 deS [iI0] true ⟨(V5 true (mqB++tdB)).bs,[.lt T6 i9]⟩=some (fq8 (wbm++[.l (.ret qad qe5 (qhd) j5 j6)]++wbf++wbf) [[.lt T6 i9]]):=by kernel_rfl
abbrev waC:List (Tq8 Cm):=[.b (.le (.add bgK kTv) K6),.b qeg,.l (.ret qad qcx (qhb) j5 j6),.b (.eq y4 w6),.p,.l (.must qbf),.a qbf,.l (.ret qad qf9 (qhb) j5 j6),.p,.l (.must qbf),.a qbf,.p,.l (.must qc8),.a qc8,.l (.ret qad qga (qhb) j5 j6)]++wbe
theorem c30:rnD prog f26 deS [iI0] false ⟨(V5 false (mqB++(⟨bgK,0,1099511627776⟩::tdB))).bs,[.not qch]⟩=some (fq8 (wbm++[.l (.ret qad qe3 (qhb) j5 j6)]++waC++waC) [[.not qch]]):=by kernel_rfl
abbrev waD:List (Tq8 Cm):=[.b (.le (.add bgK kTv) K6),.b qeg,.l (.ret qad qcy (qhd) j5 j6),.b (.eq y4 w6),.p,.l (.must qbf),.a qbf,.l (.ret qad qf8 (qhd) j5 j6),.p,.l (.must qbf),.a qbf,.p,.l (.must qc8),.a qc8,.l (.ret qad qgb (qhd) j5 j6)]++wbf
theorem c28:rnD prog f26 deS [iI0] true ⟨(V5 true (mqB++(⟨bgK,0,1099511627776⟩::tdB))).bs,[.not qch]⟩=some (fq8 (wbm++[.l (.ret qad qe5 (qhd) j5 j6)]++waD++waD) [[.not qch]]):=by kernel_rfl
abbrev waX:List (Tq8 Cm):=[.l (.must qgm),.a qgm,.p,.l (.must (.le kDn qbo)),.a (.le kDn qbo),.p,.l (.must qeu),.a qeu,.p,.l (.must qdd),.a qdd,.b (.eq kDn i9),.d qgu]
theorem c20:rnD prog f28 deS [.one (.c (.str l7))] false (V5 false (mqB++s0B))=some (fq8 (waA++waX++[.l (.ret (.tup [(.c (.int .i64 i9)),(.c (.int .i64 (.il 14)))]) qc0 (qhb) j5 j6),.l (.ret (.tup [(.c (.int .i64 kDn)),(.c (.int .i64 i9))]) qc0 (qhb) j5 j6),.l (.ret (.tup [(.c (.int .i64 kDn)),(.c (.int .i64 i9))]) qc0 (qhb) j5 j6)]) [[]]):=by kernel_rfl
theorem c18:rnD prog f28 deS [.one (.c (.str l7))] true (V5 true (mqB++s0B))=some (fq8 (waB++waX++[.l (.ret (.tup [(.c (.int .i64 i9)),(.c (.int .i64 (.il 14)))]) qc7 (qhd) j5 j6),.l (.ret (.tup [(.c (.int .i64 kDn)),(.c (.int .i64 i9))]) qc7 (qhd) j5 j6),.l (.ret (.tup [(.c (.int .i64 kDn)),(.c (.int .i64 i9))]) qc7 (qhd) j5 j6)]) [[]]):=by kernel_rfl
theorem c37:rnD prog f30 deS [iI0] false (V5 false (mqB++i6B))=some (fq8 (wbd++[.l (.ret (.tup [(.c (.str p9)),(.c (.bool qdc)),(.c (.int .i64 k5))]) j8 (qhb) j5 j6)]) [[]]):=by kernel_rfl
theorem c36:rnD prog f30 deS [iI0] true (V5 true (mqB++i6B))=some (fq8 (way++[.l (.ret (.tup [(.c (.str p9)),(.c (.bool qdc)),(.c (.int .i64 k5))]) j8 (qhd) j5 j6)]) [[]]):=by kernel_rfl
theorem c35:rnD prog f37 deS [] false (V5 false mqB)=some (fq8 ([.d qaw,.d qcw,.b qdi,.b y6]++wa9++[.l (.ret (.one (.c (.int .i64 qb3))) j8 (qhb) j5 j6)]++wa9++[.b y6]++wa9++[.l (.ret (.one (.c (.int .i64 qb3))) j8 (qhb) j5 j6),.l (.ret qeq j8 (qhb) j5 j6)]) [[]]):=by kernel_rfl
theorem c34:rnD prog f37 deS [] true (V5 true mqB)=some (fq8 ([.d qaw,.d qgj,.d qcw,.b qdi,.b y6,.l (.ret qec j8 (qhd) j5 j6),.l (.ret qfl j8 (qhd) j5 j6),.l (.ret qec j8 (qhd) j5 j6),.b y6,.l (.ret qec j8 (qhd) j5 j6),.l (.ret qfl j8 (qhd) j5 j6),.d qcw,.b qdi,.b y6]++waQ++[.l (.ret qgz j8 (qhd) j5 j6)]++waQ++[.b y6]++waQ++[.l (.ret qgz j8 (qhd) j5 j6),.l (.ret qeq j8 (qhd) j5 j6)]) [[]]):=by kernel_rfl
theorem c42:rnD prog f32 deS [] false (V5 false mqB)=some (fq8 (wbh++[.b y6,.l (.ret qeo j8 (qhb) j5 j6),.b qb8,.l (.ret qad (.ap 120 (.ap 92 o6 (.ap 92 (.il 23) qar l4) l4) i9 i9) (qhb) j5 j6)]++wba) [[]]):=by kernel_rfl
theorem c41:rnD prog f32 deS [] true (V5 true mqB)=some (fq8 (wbi++[.b y6,.l (.ret qeo j8 (qhd) j5 j6),.b qb8,.l (.ret qad (.ap 120 (.ap 92 o6 (.ap 92 (.il 23) qar l4) l6) i9 i9) (qhd) j5 j6)]++wbb) [[]]):=by kernel_rfl
theorem c44:rnD prog f34 deS [] false (V5 false mqB)=some (fq8 (wbh++[.d qb8,.d qbg,.l (.ret qad qbh (qhb) j5 qbn),.l (.ret qad qbh (qhb) j5 j6),.l (.ret qad qbh (qhb) j5 j6)]) [[]]):=by kernel_rfl
theorem c43:rnD prog f34 deS [] true (V5 true mqB)=some (fq8 (wbi++[.d qb8,.d qbg,.l (.ret qad qbi (qhd) j5 qbn),.l (.ret qad qbi (qhd) j5 j6),.l (.ret qad qbi (qhd) j5 j6)]) [[]]):=by kernel_rfl
end Go.Proofs.YtnlcpcmdlcakgaaGreat
