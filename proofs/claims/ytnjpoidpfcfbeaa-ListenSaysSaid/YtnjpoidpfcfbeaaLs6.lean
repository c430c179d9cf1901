/- ListenSays: runs with letters. Printed by gen_ls.py. -/
import Derived.Test.YtnjpoidpfcfbeaaLs5
namespace Go.Proofs.Ytnjpoidpfcfbeaa
open Go.RowKit Sy
set_option linter.unusedVariables false
set_option linter.unusedSimpArgs false

def liP : List Nat := [1, 1, 1, 1, 0]
def liA : List SV := [.one (.c (.int .i64 (.iv 7))), .one (.c (.opq 0))]
def liSt0 : Sy.St := ⟨[], [], ⟨[i64B 7], []⟩, 0⟩
def liPre (P : Program) (fn : Func) : Rs := run P [] 10 400 0 (.code (pre liP (bodyOf fn))) (enterS fn liA liSt0)
def liS1 (P : Program) (fn : Func) : Sy.St := tabCell (lfAt (liPre P fn) 1) 2 2 40 129 dnLv
def liS (P : Program) (fn : Func) : Sy.St := tabCell (liS1 P fn) 4 1 60 125 wtLv
def liI (P : Program) (fn : Func) : Sy.St := saysIn (liS P fn) 50 51 52
def quB : Bk := ⟨2, 118, [.int .i64 (.iv 7), .map 0, .slt 40 3 (.il 0) (.iv 8) (.il 0)], true, none, .no⟩
def blT : Bk := ⟨4, 121, [.int .i64 (.iv 7), .slt 60 4 (.il 0) (.iv 9) (.il 0)], true, none, .no⟩
def pc1 : Tm := .le (.iv 8) (tlen (.cv 1))
def pc2 : Tm := .le (tlen (.cv 1)) (.iv 8)
def pc3 : Tm := .le (.iv 9) (tlen (.cv 2))
def pc4 : Tm := .le (tlen (.cv 2)) (.iv 9)
def liPc : List Tm := [pc1, pc2, pc3, pc4]
def liBs : List Bd := [⟨.iv 0, 0, 140737488355328⟩, ⟨.iv 1, 0, 140737488355328⟩, ⟨.iv 7, 1, 8⟩, ⟨tlen (.cv 0), 0, 2000⟩, ⟨tlen (.cv 1), 0, 2000⟩, ⟨tlen (.cv 2), 0, 2000⟩, ⟨.iv 8, 0, 2000⟩, ⟨.iv 9, 0, 2000⟩]
def mpB : Bk := ⟨0, 0, [], true, none, .mp [.int .u32, .int .i64] true (.int .i64) (.cv 0)⟩
def liT (P : Program) (fn : Func) : Sy.St := tplS (liI P fn) (saysB fn liP) [(52, .one (.c (.int .i64 (.iv 0))))] [quB, blT, dnN 40 (.cv 1), wtN 60 (.cv 2), mpB] ⟨liBs, liPc⟩ 70
def liX (P : Program) (fn : Func) : Sy.St := saysX P fn liP (liT P fn) 0 200 54 55 10
def xBs (k : Int) : List Bd := [⟨.md (.iv 100) (.il 4), k, k⟩, i64B 100, i64B 101, u32B 134, i64B 135]
def liSp : List Sy.Spec := [ofSp, ixSp, fdSp, drSp, mnSp, tkSp, dlSp]
def liOp (P : Program) (fn : Func) (k : Int) : Rs := run P liSp 10 400 0 (.code (aft .normal rowP (saysB fn liP))) { liX P fn with cx := ⟨xBs k ++ liBs, liPc⟩ }
def xE : Tm := enY (.iv 134) (.iv 135)
def iW : Tm := .ap 45 (.cv 1) xE (.il 0)
def iR : Tm := .ap 46 (.cv 2) xE (.il 0)
def iH : Tm := .tb (.mix 2) (.cv 0) xE (.il 0)
def fH : Tm := .ap 47 (.cv 2) xE (.il 2)
def dR : Tm := .ap 48 (.cv 2) xE (.il 0)
def tR : Tm := .ap 51 (.cv 2) (.il 0) (.il 0)
def dH : Tm := .tb (.mdel 2) (.cv 0) xE (.il 0)
def eW : Tm := .ap 52 (.cv 1) iW (.il 0)
def eW0 : Tm := .ap 52 (.cv 1) (.il 0) (.il 0)
def hN (t : Tm) : Tm := .ap 49 t (.il 0) (.il 0)
def tF (k : Int) : Tm := .ap 50 (.cv 2) (.il 0) (.il k)
def w0T : Tm := .tb (.get (.int .i64) 0) (.cv 1) (.il 0) (.il 0)
def w1T : Tm := .tb (.get (.int .u32) 1) (.cv 1) (.il 0) (.il 0)
def w2T : Tm := .tb (.get (.int .i64) 2) (.cv 1) (.il 0) (.il 0)
def zRow : Tm := .tb .row (.il 0) (.il 0) (.il 0)
def wRow (a p h d : Tm) : Tm := .tb (.cons (.int .u32)) a (.tb (.cons (.int .i64)) p (.tb (.cons .bool) h (.tb (.cons (.int .i64)) d zRow (.il 0)) (.il 0)) (.il 0)) (.il 0)
def aR : Tm := .tb .app (.cv 2) (wRow (.iv 134) (.iv 135) (.bl true) (.il 0)) (.il 0)
def mR : Tm := .tb .app dR (wRow (.iv 134) (.iv 135) (.bl false) (.iv 101)) (.il 0)
def aW : Tm := .tb .app (.cv 1) (.tb (.cons (.int .i64)) (.iv 101) xE (.il 0)) (.il 0)
def pH : Tm := .tb (.mput 2) (.cv 0) (.tb (.cons (.int .u32)) (.iv 134) (.tb (.cons (.int .i64)) (.iv 135) (.tb (.cons (.int .i64)) (.il 1) zRow (.il 0)) (.il 0)) (.il 0)) (.il 0)
def x0 : Tm := enY (.il 0) (.il (-1))
def iWz : Tm := .ap 45 (.cv 1) x0 (.il 0)
def iRz : Tm := .ap 46 (.cv 2) x0 (.il 0)
def iHz : Tm := .tb (.mix 2) (.cv 0) x0 (.il 0)
def dRz : Tm := .ap 48 (.cv 2) x0 (.il 0)
def dHz : Tm := .tb (.mdel 2) (.cv 0) x0 (.il 0)
def eWz : Tm := .ap 52 (.cv 1) iWz (.il 0)
def lvE : List Sm :=
    [(.must (.lt iWz (tlen (.cv 1))) [(.le (.il 0) iWz), (.not (.lt (.iv 0) (.iv 1))), pc1, pc2, pc3, pc4]),
    (.ret (.one (.c (.bool (.bl false)))) [⟨108, 129, [], true, .none, (.tab [(.int .i64), (.int .u32), (.int .i64)] eWz)⟩, ⟨0, 0, [], true, .none, (.mp [(.int .u32), (.int .i64)] true (.int .i64) dHz)⟩, ⟨60, 125, [], true, .none, (.tab [(.int .u32), (.int .i64), .bool, (.int .i64)] (.cv 2))⟩] [(.not (.le (.il 0) iRz)), (.lt iWz (tlen (.cv 1))), (.le (.il 0) iWz), (.not (.lt (.iv 0) (.iv 1))), pc1, pc2, pc3, pc4]),
    (.ret (.one (.c (.bool (.bl true)))) [⟨114, 125, [], true, .none, (.tab [(.int .u32), (.int .i64), .bool, (.int .i64)] dRz)⟩, ⟨108, 129, [], true, .none, (.tab [(.int .i64), (.int .u32), (.int .i64)] eWz)⟩, ⟨0, 0, [], true, .none, (.mp [(.int .u32), (.int .i64)] true (.int .i64) dHz)⟩] [(.le (.il 0) iRz), (.lt iWz (tlen (.cv 1))), (.le (.il 0) iWz), (.not (.lt (.iv 0) (.iv 1))), pc1, pc2, pc3, pc4]),
    (.ret (.one (.c (.bool (.bl true)))) [⟨0, 0, [], true, .none, (.mp [(.int .u32), (.int .i64)] true (.int .i64) dHz)⟩, ⟨60, 125, [], true, .none, (.tab [(.int .u32), (.int .i64), .bool, (.int .i64)] (.cv 2))⟩, ⟨40, 129, [], true, .none, (.tab [(.int .i64), (.int .u32), (.int .i64)] (.cv 1))⟩] [(.not (.le (.il 0) iRz)), (.not (.le (.il 0) iHz)), (.not (.le (.il 0) iWz)), (.not (.lt (.iv 0) (.iv 1))), pc1, pc2, pc3, pc4]),
    (.ret (.one (.c (.bool (.bl false)))) [⟨112, 125, [], true, .none, (.tab [(.int .u32), (.int .i64), .bool, (.int .i64)] dRz)⟩, ⟨0, 0, [], true, .none, (.mp [(.int .u32), (.int .i64)] true (.int .i64) dHz)⟩, ⟨40, 129, [], true, .none, (.tab [(.int .i64), (.int .u32), (.int .i64)] (.cv 1))⟩] [(.le (.il 0) iRz), (.not (.le (.il 0) iHz)), (.not (.le (.il 0) iWz)), (.not (.lt (.iv 0) (.iv 1))), pc1, pc2, pc3, pc4]),
    (.ret (.one (.c (.bool (.bl false)))) [⟨0, 0, [], true, .none, (.mp [(.int .u32), (.int .i64)] true (.int .i64) dHz)⟩, ⟨60, 125, [], true, .none, (.tab [(.int .u32), (.int .i64), .bool, (.int .i64)] (.cv 2))⟩, ⟨40, 129, [], true, .none, (.tab [(.int .i64), (.int .u32), (.int .i64)] (.cv 1))⟩] [(.not (.le (.il 0) iRz)), (.le (.il 0) iHz), (.not (.le (.il 0) iWz)), (.not (.lt (.iv 0) (.iv 1))), pc1, pc2, pc3, pc4]),
    (.ret (.one (.c (.bool (.bl true)))) [⟨112, 125, [], true, .none, (.tab [(.int .u32), (.int .i64), .bool, (.int .i64)] dRz)⟩, ⟨0, 0, [], true, .none, (.mp [(.int .u32), (.int .i64)] true (.int .i64) dHz)⟩, ⟨40, 129, [], true, .none, (.tab [(.int .i64), (.int .u32), (.int .i64)] (.cv 1))⟩] [(.le (.il 0) iRz), (.le (.il 0) iHz), (.not (.le (.il 0) iWz)), (.not (.lt (.iv 0) (.iv 1))), pc1, pc2, pc3, pc4])]
def lv0 : List Sh :=
    [(.out 0 .ret [(.not (.eq (.iv 8) (.sub (tlen (.cv 2)) (hN (.cv 2))))), (.eq (tlen (.cv 0)) (hN (.cv 2))), (.le (.il 0) iR), (.le (.il 0) iW), (.not (.le (.il 0) iH)), pc1, pc2, pc3, pc4]),
    (.back [(.i 0 (.add (.iv 0) (.il 1)))] [(.eq (.iv 8) (.sub (tlen (.cv 2)) (hN (.cv 2)))), (.eq (tlen (.cv 0)) (hN (.cv 2))), (.le (.il 0) iR), (.le (.il 0) iW), (.not (.le (.il 0) iH)), pc1, pc2, pc3, pc4]),
    (.out 2 .ret [(.not (.eq (tlen (.cv 0)) (hN (.cv 2)))), (.le (.il 0) iR), (.le (.il 0) iW), (.not (.le (.il 0) iH)), pc1, pc2, pc3, pc4]),
    (.out 3 .ret [(.lt (hN (.cv 2)) (.iv 7)), (.not (.le (.il 0) iR)), (.le (.il 0) iW), (.not (.le (.il 0) iH)), pc1, pc2, pc3, pc4]),
    (.out 4 .ret [(.not (.lt (hN (.cv 2)) (.iv 7))), (.not (.le (.il 0) iR)), (.le (.il 0) iW), (.not (.le (.il 0) iH)), pc1, pc2, pc3, pc4]),
    (.out 5 .ret [(.le (.il 0) iR), (.eq (tlen (.cv 0)) (.iv 7)), (.not (.le (.il 0) iW)), (.not (.le (.il 0) iH)), pc1, pc2, pc3, pc4]),
    (.out 6 .ret [(.lt (hN (.cv 2)) (.iv 7)), (.not (.le (.il 0) iR)), (.eq (tlen (.cv 0)) (.iv 7)), (.not (.le (.il 0) iW)), (.not (.le (.il 0) iH)), pc1, pc2, pc3, pc4]),
    (.out 7 .ret [(.not (.eq (.iv 8) (.sub (tlen (.cv 2)) (hN (.cv 2))))), (.eq (tlen (.cv 0)) (hN (.cv 2))), (.not (.lt (hN (.cv 2)) (.iv 7))), (.not (.le (.il 0) iR)), (.eq (tlen (.cv 0)) (.iv 7)), (.not (.le (.il 0) iW)), (.not (.le (.il 0) iH)), pc1, pc2, pc3, pc4]),
    (.back [(.i 0 (.add (.iv 0) (.il 1)))] [(.eq (.iv 8) (.sub (tlen (.cv 2)) (hN (.cv 2)))), (.eq (tlen (.cv 0)) (hN (.cv 2))), (.not (.lt (hN (.cv 2)) (.iv 7))), (.not (.le (.il 0) iR)), (.eq (tlen (.cv 0)) (.iv 7)), (.not (.le (.il 0) iW)), (.not (.le (.il 0) iH)), pc1, pc2, pc3, pc4]),
    (.out 9 .ret [(.not (.eq (tlen (.cv 0)) (hN (.cv 2)))), (.not (.lt (hN (.cv 2)) (.iv 7))), (.not (.le (.il 0) iR)), (.eq (tlen (.cv 0)) (.iv 7)), (.not (.le (.il 0) iW)), (.not (.le (.il 0) iH)), pc1, pc2, pc3, pc4]),
    (.out 10 .ret [(.le (.il 0) iR), (.not (.eq (tlen (.cv 0)) (.iv 7))), (.not (.le (.il 0) iW)), (.not (.le (.il 0) iH)), pc1, pc2, pc3, pc4]),
    (.out 11 .ret [(.not (.eq (.iv 8) (.sub (.add (tlen (.cv 2)) (.il 1)) (hN aR)))), (.eq (tlen pH) (hN aR)), (.lt (hN (.cv 2)) (.iv 7)), (.not (.le (.il 0) iR)), (.not (.eq (tlen (.cv 0)) (.iv 7))), (.not (.le (.il 0) iW)), (.not (.le (.il 0) iH)), pc1, pc2, pc3, pc4]),
    (.back [(.i 0 (.add (.iv 0) (.il 1))), (.i 9 (.add (tlen (.cv 2)) (.il 1))), (.c 0 pH), (.c 2 aR)] [(.eq (.iv 8) (.sub (.add (tlen (.cv 2)) (.il 1)) (hN aR))), (.eq (tlen pH) (hN aR)), (.lt (hN (.cv 2)) (.iv 7)), (.not (.le (.il 0) iR)), (.not (.eq (tlen (.cv 0)) (.iv 7))), (.not (.le (.il 0) iW)), (.not (.le (.il 0) iH)), pc1, pc2, pc3, pc4]),
    (.out 13 .ret [(.not (.eq (tlen pH) (hN aR))), (.lt (hN (.cv 2)) (.iv 7)), (.not (.le (.il 0) iR)), (.not (.eq (tlen (.cv 0)) (.iv 7))), (.not (.le (.il 0) iW)), (.not (.le (.il 0) iH)), pc1, pc2, pc3, pc4]),
    (.out 14 .ret [(.not (.lt (hN (.cv 2)) (.iv 7))), (.not (.le (.il 0) iR)), (.not (.eq (tlen (.cv 0)) (.iv 7))), (.not (.le (.il 0) iW)), (.not (.le (.il 0) iH)), pc1, pc2, pc3, pc4]),
    (.out 15 .ret [(.not (.eq (.iv 8) (.sub (tlen (.cv 2)) (hN (.cv 2))))), (.eq (tlen (.cv 0)) (hN (.cv 2))), (.le (.il 0) iR), (.le (.il 0) iH), pc1, pc2, pc3, pc4]),
    (.back [(.i 0 (.add (.iv 0) (.il 1)))] [(.eq (.iv 8) (.sub (tlen (.cv 2)) (hN (.cv 2)))), (.eq (tlen (.cv 0)) (hN (.cv 2))), (.le (.il 0) iR), (.le (.il 0) iH), pc1, pc2, pc3, pc4]),
    (.out 17 .ret [(.not (.eq (tlen (.cv 0)) (hN (.cv 2)))), (.le (.il 0) iR), (.le (.il 0) iH), pc1, pc2, pc3, pc4]),
    (.out 18 .ret [(.lt (hN (.cv 2)) (.iv 7)), (.not (.le (.il 0) iR)), (.le (.il 0) iH), pc1, pc2, pc3, pc4]),
    (.out 19 .ret [(.not (.lt (hN (.cv 2)) (.iv 7))), (.not (.le (.il 0) iR)), (.le (.il 0) iH), pc1, pc2, pc3, pc4])]
def lv1 : List Sh :=
    [(.out 0 .ret [(.not (.eq (.iv 8) (.sub (tlen (.cv 2)) (hN (.cv 2))))), (.eq (tlen (.cv 0)) (hN (.cv 2))), (.not fH), (.le (.il 0) iR), (.le (.il 0) iW), pc1, pc2, pc3, pc4]),
    (.back [(.i 0 (.add (.iv 0) (.il 1)))] [(.eq (.iv 8) (.sub (tlen (.cv 2)) (hN (.cv 2)))), (.eq (tlen (.cv 0)) (hN (.cv 2))), (.not fH), (.le (.il 0) iR), (.le (.il 0) iW), pc1, pc2, pc3, pc4]),
    (.out 2 .ret [(.not (.eq (tlen (.cv 0)) (hN (.cv 2)))), (.not fH), (.le (.il 0) iR), (.le (.il 0) iW), pc1, pc2, pc3, pc4]),
    (.out 3 .ret [(.eq (.sub (tlen dR) (hN dR)) (.iv 7)), fH, (.le (.il 0) iR), (.le (.il 0) iW), pc1, pc2, pc3, pc4]),
    (.out 4 .ret [(.not (.eq (.sub (tlen dR) (hN dR)) (.iv 7))), fH, (.le (.il 0) iR), (.le (.il 0) iW), pc1, pc2, pc3, pc4]),
    (.out 5 .ret [(.eq (.sub (tlen dR) (hN dR)) (.iv 7)), (.not (.le (.il 0) iR)), (.le (.il 0) iW), pc1, pc2, pc3, pc4]),
    (.out 6 .ret [(.not (.eq (.sub (tlen dR) (hN dR)) (.iv 7))), (.not (.le (.il 0) iR)), (.le (.il 0) iW), pc1, pc2, pc3, pc4]),
    (.out 7 .ret [(.not fH), (.le (.il 0) iR), (.eq (.iv 8) (.iv 7)), (.not (.le (.il 0) iW)), pc1, pc2, pc3, pc4]),
    (.out 8 .ret [(.not (.eq (.iv 8) (.sub (tlen dR) (hN dR)))), (.eq (tlen dH) (hN dR)), (.eq (.sub (tlen dR) (hN dR)) (.iv 7)), fH, (.le (.il 0) iR), (.eq (.iv 8) (.iv 7)), (.not (.le (.il 0) iW)), pc1, pc2, pc3, pc4]),
    (.back [(.i 0 (.add (.iv 0) (.il 1))), (.i 9 (tlen dR)), (.c 0 dH), (.c 2 dR)] [(.eq (.iv 8) (.sub (tlen dR) (hN dR))), (.eq (tlen dH) (hN dR)), (.eq (.sub (tlen dR) (hN dR)) (.iv 7)), fH, (.le (.il 0) iR), (.eq (.iv 8) (.iv 7)), (.not (.le (.il 0) iW)), pc1, pc2, pc3, pc4]),
    (.out 10 .ret [(.not (.eq (tlen dH) (hN dR))), (.eq (.sub (tlen dR) (hN dR)) (.iv 7)), fH, (.le (.il 0) iR), (.eq (.iv 8) (.iv 7)), (.not (.le (.il 0) iW)), pc1, pc2, pc3, pc4]),
    (.out 11 .ret [(.not (.eq (.sub (tlen dR) (hN dR)) (.iv 7))), fH, (.le (.il 0) iR), (.eq (.iv 8) (.iv 7)), (.not (.le (.il 0) iW)), pc1, pc2, pc3, pc4]),
    (.out 12 .ret [(.not (.eq (.iv 8) (.sub (tlen dR) (hN dR)))), (.eq (tlen dH) (hN dR)), (.eq (.sub (tlen dR) (hN dR)) (.iv 7)), (.not (.le (.il 0) iR)), (.eq (.iv 8) (.iv 7)), (.not (.le (.il 0) iW)), pc1, pc2, pc3, pc4]),
    (.back [(.i 0 (.add (.iv 0) (.il 1))), (.i 9 (tlen dR)), (.c 0 dH), (.c 2 dR)] [(.eq (.iv 8) (.sub (tlen dR) (hN dR))), (.eq (tlen dH) (hN dR)), (.eq (.sub (tlen dR) (hN dR)) (.iv 7)), (.not (.le (.il 0) iR)), (.eq (.iv 8) (.iv 7)), (.not (.le (.il 0) iW)), pc1, pc2, pc3, pc4]),
    (.out 14 .ret [(.not (.eq (tlen dH) (hN dR))), (.eq (.sub (tlen dR) (hN dR)) (.iv 7)), (.not (.le (.il 0) iR)), (.eq (.iv 8) (.iv 7)), (.not (.le (.il 0) iW)), pc1, pc2, pc3, pc4]),
    (.out 15 .ret [(.not (.eq (.sub (tlen dR) (hN dR)) (.iv 7))), (.not (.le (.il 0) iR)), (.eq (.iv 8) (.iv 7)), (.not (.le (.il 0) iW)), pc1, pc2, pc3, pc4]),
    (.out 16 .ret [(.not fH), (.le (.il 0) iR), (.not (.eq (.iv 8) (.iv 7))), (.not (.le (.il 0) iW)), pc1, pc2, pc3, pc4]),
    (.out 17 .ret [(.eq (.sub (tlen dR) (hN dR)) (.iv 7)), fH, (.le (.il 0) iR), (.not (.eq (.iv 8) (.iv 7))), (.not (.le (.il 0) iW)), pc1, pc2, pc3, pc4]),
    (.out 18 .ret [(.not (.eq (.add (tlen (.cv 1)) (.il 1)) (.sub (.add (tlen dR) (.il 1)) (hN mR)))), (.eq (tlen dH) (hN mR)), (.not (.eq (.sub (tlen dR) (hN dR)) (.iv 7))), fH, (.le (.il 0) iR), (.not (.eq (.iv 8) (.iv 7))), (.not (.le (.il 0) iW)), pc1, pc2, pc3, pc4]),
    (.back [(.i 0 (.add (.iv 0) (.il 1))), (.i 9 (.add (tlen dR) (.il 1))), (.i 8 (.add (tlen (.cv 1)) (.il 1))), (.c 0 dH), (.c 2 mR), (.c 1 aW)] [(.eq (.add (tlen (.cv 1)) (.il 1)) (.sub (.add (tlen dR) (.il 1)) (hN mR))), (.eq (tlen dH) (hN mR)), (.not (.eq (.sub (tlen dR) (hN dR)) (.iv 7))), fH, (.le (.il 0) iR), (.not (.eq (.iv 8) (.iv 7))), (.not (.le (.il 0) iW)), pc1, pc2, pc3, pc4]),
    (.out 20 .ret [(.not (.eq (tlen dH) (hN mR))), (.not (.eq (.sub (tlen dR) (hN dR)) (.iv 7))), fH, (.le (.il 0) iR), (.not (.eq (.iv 8) (.iv 7))), (.not (.le (.il 0) iW)), pc1, pc2, pc3, pc4]),
    (.out 21 .ret [(.eq (.sub (tlen dR) (hN dR)) (.iv 7)), (.not (.le (.il 0) iR)), (.not (.eq (.iv 8) (.iv 7))), (.not (.le (.il 0) iW)), pc1, pc2, pc3, pc4]),
    (.out 22 .ret [(.not (.eq (.add (tlen (.cv 1)) (.il 1)) (.sub (.add (tlen dR) (.il 1)) (hN mR)))), (.eq (tlen dH) (hN mR)), (.not (.eq (.sub (tlen dR) (hN dR)) (.iv 7))), (.not (.le (.il 0) iR)), (.not (.eq (.iv 8) (.iv 7))), (.not (.le (.il 0) iW)), pc1, pc2, pc3, pc4]),
    (.back [(.i 0 (.add (.iv 0) (.il 1))), (.i 9 (.add (tlen dR) (.il 1))), (.i 8 (.add (tlen (.cv 1)) (.il 1))), (.c 0 dH), (.c 2 mR), (.c 1 aW)] [(.eq (.add (tlen (.cv 1)) (.il 1)) (.sub (.add (tlen dR) (.il 1)) (hN mR))), (.eq (tlen dH) (hN mR)), (.not (.eq (.sub (tlen dR) (hN dR)) (.iv 7))), (.not (.le (.il 0) iR)), (.not (.eq (.iv 8) (.iv 7))), (.not (.le (.il 0) iW)), pc1, pc2, pc3, pc4]),
    (.out 24 .ret [(.not (.eq (tlen dH) (hN mR))), (.not (.eq (.sub (tlen dR) (hN dR)) (.iv 7))), (.not (.le (.il 0) iR)), (.not (.eq (.iv 8) (.iv 7))), (.not (.le (.il 0) iW)), pc1, pc2, pc3, pc4])]
def lv2 : List Sh :=
    [(.must (.lt iW (tlen (.cv 1))) [(.le (.il 0) iW), pc1, pc2, pc3, pc4]),
    (.out 1 .ret [(.not (.le (.il 0) iR)), (.lt iW (tlen (.cv 1))), (.le (.il 0) iW), pc1, pc2, pc3, pc4]),
    (.out 2 .ret [(.not (.eq (tlen eW) (.sub (tlen dR) (hN dR)))), (.eq (tlen dH) (hN dR)), (.le (.il 0) iR), (.lt iW (tlen (.cv 1))), (.le (.il 0) iW), pc1, pc2, pc3, pc4]),
    (.back [(.i 0 (.add (.iv 0) (.il 1))), (.i 9 (tlen dR)), (.i 8 (tlen eW)), (.c 0 dH), (.c 2 dR), (.c 1 eW)] [(.eq (tlen eW) (.sub (tlen dR) (hN dR))), (.eq (tlen dH) (hN dR)), (.le (.il 0) iR), (.lt iW (tlen (.cv 1))), (.le (.il 0) iW), pc1, pc2, pc3, pc4]),
    (.out 4 .ret [(.not (.eq (tlen dH) (hN dR))), (.le (.il 0) iR), (.lt iW (tlen (.cv 1))), (.le (.il 0) iW), pc1, pc2, pc3, pc4]),
    (.out 5 .ret [(.not (.eq (.iv 8) (.sub (tlen (.cv 2)) (hN (.cv 2))))), (.eq (tlen dH) (hN (.cv 2))), (.not (.le (.il 0) iR)), (.not (.le (.il 0) iH)), (.not (.le (.il 0) iW)), pc1, pc2, pc3, pc4]),
    (.back [(.i 0 (.add (.iv 0) (.il 1))), (.c 0 dH)] [(.eq (.iv 8) (.sub (tlen (.cv 2)) (hN (.cv 2)))), (.eq (tlen dH) (hN (.cv 2))), (.not (.le (.il 0) iR)), (.not (.le (.il 0) iH)), (.not (.le (.il 0) iW)), pc1, pc2, pc3, pc4]),
    (.out 7 .ret [(.not (.eq (tlen dH) (hN (.cv 2)))), (.not (.le (.il 0) iR)), (.not (.le (.il 0) iH)), (.not (.le (.il 0) iW)), pc1, pc2, pc3, pc4]),
    (.out 8 .ret [(.le (.il 0) iR), (.not (.le (.il 0) iH)), (.not (.le (.il 0) iW)), pc1, pc2, pc3, pc4]),
    (.out 9 .ret [(.not (.le (.il 0) iR)), (.le (.il 0) iH), (.not (.le (.il 0) iW)), pc1, pc2, pc3, pc4]),
    (.out 10 .ret [(.not (.eq (.iv 8) (.sub (tlen dR) (hN dR)))), (.eq (tlen dH) (hN dR)), (.le (.il 0) iR), (.le (.il 0) iH), (.not (.le (.il 0) iW)), pc1, pc2, pc3, pc4]),
    (.back [(.i 0 (.add (.iv 0) (.il 1))), (.i 9 (tlen dR)), (.c 0 dH), (.c 2 dR)] [(.eq (.iv 8) (.sub (tlen dR) (hN dR))), (.eq (tlen dH) (hN dR)), (.le (.il 0) iR), (.le (.il 0) iH), (.not (.le (.il 0) iW)), pc1, pc2, pc3, pc4]),
    (.out 12 .ret [(.not (.eq (tlen dH) (hN dR))), (.le (.il 0) iR), (.le (.il 0) iH), (.not (.le (.il 0) iW)), pc1, pc2, pc3, pc4])]
def lv3 : List Sh :=
    [(.out 0 .ret [(.not (.eq (.iv 8) (.sub (tlen tR) (hN tR)))), (.eq (tlen (.cv 0)) (hN tR)), (.eq (.il 14) (tF 4)), (.and (.eq (.il 0) (tF 0)) (.eq (.il 0) (tF 1))), (.eq (.il 0) (tF 3)), (.eq (.iv 8) (.il 0)), pc1, pc2, pc3, pc4]),
    (.back [(.i 0 (.add (.iv 0) (.il 1))), (.i 9 (tlen tR)), (.c 2 tR)] [(.eq (.iv 8) (.sub (tlen tR) (hN tR))), (.eq (tlen (.cv 0)) (hN tR)), (.eq (.il 14) (tF 4)), (.and (.eq (.il 0) (tF 0)) (.eq (.il 0) (tF 1))), (.eq (.il 0) (tF 3)), (.eq (.iv 8) (.il 0)), pc1, pc2, pc3, pc4]),
    (.out 2 .ret [(.not (.eq (tlen (.cv 0)) (hN tR))), (.eq (.il 14) (tF 4)), (.and (.eq (.il 0) (tF 0)) (.eq (.il 0) (tF 1))), (.eq (.il 0) (tF 3)), (.eq (.iv 8) (.il 0)), pc1, pc2, pc3, pc4]),
    (.out 3 .ret [(.not (.eq (.il 14) (tF 4))), (.and (.eq (.il 0) (tF 0)) (.eq (.il 0) (tF 1))), (.eq (.il 0) (tF 3)), (.eq (.iv 8) (.il 0)), pc1, pc2, pc3, pc4]),
    (.out 4 .ret [(.not (.and (.eq (.il 0) (tF 0)) (.eq (.il 0) (tF 1)))), (.eq (.il 0) (tF 3)), (.eq (.iv 8) (.il 0)), pc1, pc2, pc3, pc4]),
    (.out 5 .ret [(.not (.eq (.il 0) (tF 3))), (.eq (.iv 8) (.il 0)), pc1, pc2, pc3, pc4]),
    (.must (.lt (.il 0) (.iv 8)) [(.not (.eq (.iv 8) (.il 0))), pc1, pc2, pc3, pc4]),
    (.must (.lt (.il 0) (tlen (.cv 1))) [(.lt (.il 0) (.iv 8)), (.not (.eq (.iv 8) (.il 0))), pc1, pc2, pc3, pc4]),
    (.out 8 .ret [(.not (.eq (tlen eW0) (.sub (tlen tR) (hN tR)))), (.eq (tlen (.cv 0)) (hN tR)), (.eq (.il 0) (tF 4)), (.and (.eq w1T (tF 0)) (.eq w2T (tF 1))), (.eq w0T (tF 3)), (.lt (.il 0) (tlen (.cv 1))), (.lt (.il 0) (.iv 8)), (.not (.eq (.iv 8) (.il 0))), pc1, pc2, pc3, pc4]),
    (.back [(.i 0 (.add (.iv 0) (.il 1))), (.i 9 (tlen tR)), (.i 8 (tlen eW0)), (.c 2 tR), (.c 1 eW0)] [(.eq (tlen eW0) (.sub (tlen tR) (hN tR))), (.eq (tlen (.cv 0)) (hN tR)), (.eq (.il 0) (tF 4)), (.and (.eq w1T (tF 0)) (.eq w2T (tF 1))), (.eq w0T (tF 3)), (.lt (.il 0) (tlen (.cv 1))), (.lt (.il 0) (.iv 8)), (.not (.eq (.iv 8) (.il 0))), pc1, pc2, pc3, pc4]),
    (.out 10 .ret [(.not (.eq (tlen (.cv 0)) (hN tR))), (.eq (.il 0) (tF 4)), (.and (.eq w1T (tF 0)) (.eq w2T (tF 1))), (.eq w0T (tF 3)), (.lt (.il 0) (tlen (.cv 1))), (.lt (.il 0) (.iv 8)), (.not (.eq (.iv 8) (.il 0))), pc1, pc2, pc3, pc4]),
    (.out 11 .ret [(.not (.eq (.il 0) (tF 4))), (.and (.eq w1T (tF 0)) (.eq w2T (tF 1))), (.eq w0T (tF 3)), (.lt (.il 0) (tlen (.cv 1))), (.lt (.il 0) (.iv 8)), (.not (.eq (.iv 8) (.il 0))), pc1, pc2, pc3, pc4]),
    (.out 12 .ret [(.not (.and (.eq w1T (tF 0)) (.eq w2T (tF 1)))), (.eq w0T (tF 3)), (.lt (.il 0) (tlen (.cv 1))), (.lt (.il 0) (.iv 8)), (.not (.eq (.iv 8) (.il 0))), pc1, pc2, pc3, pc4]),
    (.out 13 .ret [(.not (.eq w0T (tF 3))), (.lt (.il 0) (tlen (.cv 1))), (.lt (.il 0) (.iv 8)), (.not (.eq (.iv 8) (.il 0))), pc1, pc2, pc3, pc4])]
set_option maxRecDepth 100000 in
theorem li_pre : shR 0 none (liPre Try.prog Try.f4) = some [(.out 0 .ret [(.lt (.il 8) (.iv 7)), (.not (.lt (.iv 7) (.il 1)))]), (.out 1 .normal [(.not (.lt (.il 8) (.iv 7))), (.not (.lt (.iv 7) (.il 1)))]), (.out 2 .ret [(.lt (.iv 7) (.il 1))])] := by kernel_rfl
set_option maxRecDepth 100000 in
theorem li_ret0 : retS Try.prog (lfAt (liPre Try.prog Try.f4) 0) Try.f4.results.toList = some (.one (.c (.bool (.bl true)))) := by kernel_rfl
set_option maxRecDepth 100000 in
theorem li_ret2 : retS Try.prog (lfAt (liPre Try.prog Try.f4) 2) Try.f4.results.toList = some (.one (.c (.bool (.bl true)))) := by kernel_rfl
set_option maxRecDepth 100000 in
theorem li_code : SaysCode Try.prog Try.f4 liP (liT Try.prog Try.f4) 0 200 1 50 51 52 54 55 10 where
  rg4 := ⟨Sy.opAt (Sy.sub (liP ++ [0]) (bodyOf Try.f4)) 0, Sy.opAt (Sy.sub (liP ++ [0]) (bodyOf Try.f4)) 1, Sy.opAt (Sy.sub (liP ++ [0]) (bodyOf Try.f4)) 2, by kernel_rfl, ⟨by kernel_rfl, by kernel_rfl, by kernel_rfl⟩, ⟨by kernel_rfl, by kernel_rfl, by kernel_rfl⟩, ⟨by kernel_rfl, by kernel_rfl, by kernel_rfl⟩⟩
  at_ := by kernel_rfl
  hd := by kernel_rfl
  row := ⟨Sy.opAt (Sy.sub rowP (saysB Try.f4 liP)) 0, Sy.opAt (Sy.sub rowP (saysB Try.f4 liP)) 1, Sy.opAt (Sy.sub rowP (saysB Try.f4 liP)) 2, Sy.opAt (Sy.sub rowP (saysB Try.f4 liP)) 3, by kernel_rfl, ⟨by kernel_rfl, by kernel_rfl, by kernel_rfl⟩, ⟨by kernel_rfl, by kernel_rfl, by kernel_rfl⟩, ⟨by kernel_rfl, by kernel_rfl, by kernel_rfl⟩, ⟨by kernel_rfl, by kernel_rfl, by kernel_rfl⟩⟩
  lo1 := by kernel_rfl
  any1 := by kernel_rfl
  tx := by kernel_rfl
  ti := by kernel_rfl
  hnr := by decide
  free := by kernel_rfl
  e1 := by kernel_rfl
  e2 := by kernel_rfl
  e3 := by kernel_rfl
  e4 := by kernel_rfl
  out := by kernel_rfl
  uS := Try.underlying22
  uE := ⟨_, Try.underlying41, rfl⟩
  inf := step_info
  zero := by kernel_rfl
  zlen := by kernel_rfl
set_option maxRecDepth 100000 in
theorem li_in : (matchS 0 (liT Try.prog Try.f4) (liI Try.prog Try.f4)).map noU = some [.i 0 (.il 0), .i 9 (.il 0), .i 8 (.il 0), .c 0 tn, .c 2 tn, .c 1 tn] := by kernel_rfl
set_option maxRecDepth 100000 in
theorem li_free1 : ((lfAt (liPre Try.prog Try.f4) 1).free 40, (lfAt (liPre Try.prog Try.f4) 1).free 41) = (true, true) := by kernel_rfl
set_option maxRecDepth 100000 in
theorem li_free2 : ((liS1 Try.prog Try.f4).free 60, (liS1 Try.prog Try.f4).free 61) = (true, true) := by kernel_rfl
set_option maxRecDepth 100000 in
theorem li_tm : ((liS Try.prog Try.f4).tm[1]?, ((liS Try.prog Try.f4).put (some 50) (.one (.c (.opq 0)))).tm[50]?) = (some (.one (.c (.opq 0))), some (.one (.c (.opq 0)))) := by kernel_rfl
theorem li_okP : okP liP (bodyOf Try.f4) = true := by kernel_rfl
set_option maxRecDepth 100000 in
theorem li_cx : (liT Try.prog Try.f4).cx = ⟨liBs, liPc⟩ := by kernel_rfl
set_option maxRecDepth 100000 in
theorem li_op0 : shR 0 (some (liT Try.prog Try.f4)) (liOp Try.prog Try.f4 0) = some lv0 := by kernel_rfl
set_option maxRecDepth 100000 in
theorem li_op1 : shR 0 (some (liT Try.prog Try.f4)) (liOp Try.prog Try.f4 1) = some lv1 := by kernel_rfl
set_option maxRecDepth 100000 in
theorem li_op2 : shR 0 (some (liT Try.prog Try.f4)) (liOp Try.prog Try.f4 2) = some lv2 := by kernel_rfl
set_option maxRecDepth 100000 in
theorem li_op3 : shR 0 (some (liT Try.prog Try.f4)) (liOp Try.prog Try.f4 3) = some lv3 := by kernel_rfl
set_option maxRecDepth 100000 in
theorem li_end : smR Try.prog Try.f4 0 (run Try.prog liSp 10 400 0 (.code (aft .normal (liP ++ [1]) (bodyOf Try.f4))) (lfAt (saysHd Try.prog Try.f4 liP (liT Try.prog Try.f4) 0) 1)) = some lvE := by kernel_rfl
end Go.Proofs.Ytnjpoidpfcfbeaa
