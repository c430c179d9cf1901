/- Split of a packet, the program's and the reference's: runs with letters. Printed by gen_fs.py. -/
import Derived.Test.YthjigajielhkfaaSyY
import Derived.Test.YthjigajielhkfaaIpChk
namespace Go.Proofs.Ythjigajielhkfaa
open Go.RowKit Sy
set_option linter.unusedVariables false
set_option linter.unusedSimpArgs false

def pkLv : List Kd := [.int .u32, .int .u32, .int .i64, .int .i64, .int .i64, .bool, .bool, .int .i64, .str]
def pkC : List C := [.int .u32 (.iv 0), .int .u32 (.iv 1), .int .i64 (.iv 2), .int .i64 (.iv 3), .int .i64 (.iv 4), .bool (.bv 5), .bool (.bv 6), .int .i64 (.iv 7), .str (.sv 8)]
def pkC0 : List C := [.int .u32 (.iv 0), .int .u32 (.iv 1), .int .i64 (.iv 2), .int .i64 (.iv 3), .int .i64 (.iv 4), .bool (.bv 5), .bool (.bv 6), .int .i64 (.iv 7), .str (.sl [])]
def i64B (n : Nat) : Bd := ⟨.iv n, -9223372036854775808, 9223372036854775807⟩
def fsBs : List Bd := [⟨.iv 0, 0, 4294967295⟩, ⟨.iv 1, 0, 4294967295⟩, i64B 2, i64B 3, i64B 4, i64B 7, i64B 9, i64B 10]
def fsCx : Cx := ⟨⟨.len (.sv 8), 0, 9223372036854775807⟩ :: fsBs, []⟩
def fsA : List SV := [.one (.agg pkC), .one (.c (.int .i64 (.iv 9)))]
def fsSt : Sy.St := ⟨[], [], fsCx, 0⟩
def chkS (f : FuncId) : Sy.Spec := fixSp f (sameT [.one (.agg pkC0)]) (.one (.c (.int .i64 (.iv 10))))
def fsSp : List Sy.Spec := [chkS 123, chkS 126]
def fsTb : Bk := ⟨40, 24, [], true, none, .tab pkLv (.cv 0)⟩
def fsPc : List Tm := [.le (.iv 11) (tlen (.cv 0)), .le (tlen (.cv 0)) (.iv 11)]
/-- What is returned: no table and an error; the packet itself. -/
inductive FsV where
  | one (e : Tm) | two (l : Nat)
def FsV.v : FsV → SV
  | .one e => .tup [.c .nslc, .c (.int .i64 e)]
  | .two l => .tup [.c (.slc l 0 (.il 1) (.il 1)), .c (.int .i64 (.il 0))]
/-! The program's. -/
def fsP : List Nat := [1, 1, 1, 1, 1, 1, 1, 1, 2]
def fs0 (P : Program) (fn : Func) : Rs := run P fsSp 10 400 0 (.code (pre fsP (bodyOf fn))) (enterS fn fsA fsSt)
def fsS (P : Program) (fn : Func) : Sy.St := tabSlot (lfAt (fs0 P fn) 5) 9 40 24 pkLv
def fsCx1 : Cx := ⟨[⟨.iv 11, 0, 4000⟩, ⟨tlen (.cv 0), 0, 4000⟩, ⟨.len (.sv 8), 0, 4000⟩, ⟨.len (.sv 9), 0, 4000⟩, ⟨.iv 9, 28, 1420⟩, ⟨.sub (.len (.sv 8)) (.len (.sv 9)), 0, 4000⟩] ++ fsBs, fsPc⟩
def fsT (P : Program) (fn : Func) : Sy.St := tplS (fsS P fn) (lpBody (Sy.sub fsP (bodyOf fn))) [(9, .one (.c (.slt 40 9 (.il 0) (.iv 11) (.il 0)))), (10, .one (.c (.str (.sv 9))))] [fsTb] fsCx1 60
def fs1 (P : Program) (fn : Func) : Rs := run P [] 10 400 0 (.code (lpBody (Sy.sub fsP (bodyOf fn)))) (fsT P fn)
set_option maxRecDepth 100000 in
theorem fs_run0 : shR 0 none (fs0 Try.prog Try.f88) = some 
    [(.out 0 .ret [(.not (.eq (.iv 7) (.il 0))), (.not (.bv 6)), (.not (.lt (.il 1420) (.iv 9))), (.not (.lt (.iv 9) (.il 28)))]),
    (.out 1 .ret [(.not (.eq (.iv 10) (.il 0))), (.eq (.iv 7) (.il 0)), (.not (.bv 6)), (.not (.lt (.il 1420) (.iv 9))), (.not (.lt (.iv 9) (.il 28)))]),
    (.out 2 .ret [(.lt (.il 4000) (.len (.sv 8))), (.eq (.iv 10) (.il 0)), (.eq (.iv 7) (.il 0)), (.not (.bv 6)), (.not (.lt (.il 1420) (.iv 9))), (.not (.lt (.iv 9) (.il 28)))]),
    (.out 3 .ret [(.le (.add (.len (.sv 8)) (.il 20)) (.iv 9)), (.not (.lt (.il 4000) (.len (.sv 8)))), (.eq (.iv 10) (.il 0)), (.eq (.iv 7) (.il 0)), (.not (.bv 6)), (.not (.lt (.il 1420) (.iv 9))), (.not (.lt (.iv 9) (.il 28)))]),
    (.out 4 .ret [(.bv 5), (.not (.le (.add (.len (.sv 8)) (.il 20)) (.iv 9))), (.not (.lt (.il 4000) (.len (.sv 8)))), (.eq (.iv 10) (.il 0)), (.eq (.iv 7) (.il 0)), (.not (.bv 6)), (.not (.lt (.il 1420) (.iv 9))), (.not (.lt (.iv 9) (.il 28)))]),
    (.out 5 .normal [(.not (.bv 5)), (.not (.le (.add (.len (.sv 8)) (.il 20)) (.iv 9))), (.not (.lt (.il 4000) (.len (.sv 8)))), (.eq (.iv 10) (.il 0)), (.eq (.iv 7) (.il 0)), (.not (.bv 6)), (.not (.lt (.il 1420) (.iv 9))), (.not (.lt (.iv 9) (.il 28)))]),
    (.out 6 .ret [(.bv 6), (.not (.lt (.il 1420) (.iv 9))), (.not (.lt (.iv 9) (.il 28)))]),
    (.out 7 .ret [(.lt (.il 1420) (.iv 9)), (.not (.lt (.iv 9) (.il 28)))]),
    (.out 8 .ret [(.lt (.iv 9) (.il 28))])] := by kernel_rfl
set_option maxRecDepth 100000 in
theorem fs_match : (matchS 0 (fsT Try.prog Try.f88) (fsS Try.prog Try.f88)).map noU = some [.i 11 (.il 0), .s 9 (.sv 8), .c 0 tn] := by kernel_rfl
set_option maxRecDepth 100000 in
theorem fs_free : ((lfAt (fs0 Try.prog Try.f88) 5).free 40, (lfAt (fs0 Try.prog Try.f88) 5).free 41) = (true, true) := by kernel_rfl
set_option maxRecDepth 100000 in
theorem fs_run1 : shR 0 (some (fsT Try.prog Try.f88)) (fs1 Try.prog Try.f88) = some 
    [(.out 0 .ret [(.le (.len (.sv 9)) (.mul (.dv (.add (.iv 9) (.il (-20))) (.il 8)) (.il 8))), (.le (.iv 11) (.tb .len (.cv 0) (.il 0) (.il 0))), (.le (.tb .len (.cv 0) (.il 0) (.il 0)) (.iv 11))]),
    (.back [(.i 11 (.add (.tb .len (.cv 0) (.il 0) (.il 0)) (.il 1))), (.s 9 (.cut (.sv 9) (.mul (.dv (.add (.iv 9) (.il (-20))) (.il 8)) (.il 8)) (.len (.sv 9)))), (.c 0 (.tb .app (.cv 0) (.tb (.cons (.int .u32)) (.iv 0) (.tb (.cons (.int .u32)) (.iv 1) (.tb (.cons (.int .i64)) (.iv 2) (.tb (.cons (.int .i64)) (.iv 3) (.tb (.cons (.int .i64)) (.iv 4) (.tb (.cons .bool) (.bv 5) (.tb (.cons .bool) (.bl true) (.tb (.cons (.int .i64)) (.dv (.sub (.len (.sv 8)) (.len (.sv 9))) (.il 8)) (.tb (.cons .str) (.cut (.sv 9) (.il 0) (.mul (.dv (.add (.iv 9) (.il (-20))) (.il 8)) (.il 8))) (.tb .row (.il 0) (.il 0) (.il 0)) (.il 0)) (.il 0)) (.il 0)) (.il 0)) (.il 0)) (.il 0)) (.il 0)) (.il 0)) (.il 0)) (.il 0)))] [(.not (.le (.len (.sv 9)) (.mul (.dv (.add (.iv 9) (.il (-20))) (.il 8)) (.il 8)))), (.le (.iv 11) (.tb .len (.cv 0) (.il 0) (.il 0))), (.le (.tb .len (.cv 0) (.il 0) (.il 0)) (.iv 11))])] := by kernel_rfl
set_option maxRecDepth 100000 in
theorem fs_rets : [0, 1, 2, 3, 4, 6, 7, 8].map (fun k => retS Try.prog (lfAt (fs0 Try.prog Try.f88) k) Try.f88.results.toList) = [(.one (.il 1)), (.one (.iv 10)), (.one (.il 2)), (.two 4), (.one (.il 2)), (.one (.il 1)), (.one (.il 1)), (.one (.il 1))].map fun (x : FsV) => some x.v := by kernel_rfl
set_option maxRecDepth 100000 in
theorem fs_hp3 : (lfAt (fs0 Try.prog Try.f88) 3).hp.head? = some ⟨4, 24, pkC, true, none, .no⟩ := by kernel_rfl
set_option maxRecDepth 100000 in
theorem fs_ret1 : retS Try.prog (lfAt (fs1 Try.prog Try.f88) 0) Try.f88.results.toList = some (.tup [(.c (.slt 64 9 (.il 0) (.add (tlen (.cv 0)) (.il 1)) (.il 0))), (.c (.int .i64 (.il 0)))]) := by kernel_rfl
def fsLast : Tm := .tb .app (.cv 0) (.tb (.cons (.int .u32)) (.iv 0) (.tb (.cons (.int .u32)) (.iv 1) (.tb (.cons (.int .i64)) (.iv 2) (.tb (.cons (.int .i64)) (.iv 3) (.tb (.cons (.int .i64)) (.iv 4) (.tb (.cons .bool) (.bv 5) (.tb (.cons .bool) (.bv 6) (.tb (.cons (.int .i64)) (.dv (.sub (.len (.sv 8)) (.len (.sv 9))) (.il 8)) (.tb (.cons .str) (.sv 9) trow (.il 0)) (.il 0)) (.il 0)) (.il 0)) (.il 0)) (.il 0)) (.il 0)) (.il 0)) (.il 0)) (.il 0)
set_option maxRecDepth 100000 in
theorem fs_hp1 : (lfAt (fs1 Try.prog Try.f88) 0).hp.head? = some ⟨64, 24, [], true, none, .tab pkLv fsLast⟩ := by kernel_rfl
theorem fs_cx1 : (fsT Try.prog Try.f88).cx = fsCx1 := by kernel_rfl
theorem fs_loop : Code.loop (lpBody (Sy.sub fsP (bodyOf Try.f88))) = Sy.sub fsP (bodyOf Try.f88) := by kernel_rfl
/-! The reference's. -/
def grP : List Nat := [1, 1, 1, 1, 1, 1, 1, 1, 1, 0, 1, 2]
def gr0 (P : Program) (fn : Func) : Rs := run P fsSp 10 400 0 (.code (pre grP (bodyOf fn))) (enterS fn fsA fsSt)
def grS (P : Program) (fn : Func) : Sy.St := tabSlot (lfAt (gr0 P fn) 4) 8 40 24 pkLv
def grCx1 : Cx := ⟨[⟨.iv 11, 0, 4000⟩, ⟨tlen (.cv 0), 0, 4000⟩, ⟨.len (.sv 8), 0, 4000⟩, ⟨.iv 12, 0, 4000⟩, ⟨.iv 9, 28, 1420⟩] ++ fsBs, fsPc⟩
def grT (P : Program) (fn : Func) : Sy.St := tplS (grS P fn) (lpBody (Sy.sub grP (bodyOf fn))) [(8, .one (.c (.slt 40 9 (.il 0) (.iv 11) (.il 0)))), (10, .one (.c (.int .i64 (.iv 12))))] [fsTb] grCx1 60
def gr1 (P : Program) (fn : Func) : Rs := run P [] 10 400 0 (.code (lpBody (Sy.sub grP (bodyOf fn)))) (grT P fn)
set_option maxRecDepth 100000 in
theorem gr_run0 : shR 0 none (gr0 Try.prog Try.f89) = some 
    [(.out 0 .ret [(.not (.eq (.iv 7) (.il 0))), (.not (.bv 6)), (.not (.lt (.il 1420) (.iv 9))), (.not (.lt (.iv 9) (.il 28)))]),
    (.out 1 .ret [(.not (.eq (.iv 10) (.il 0))), (.eq (.iv 7) (.il 0)), (.not (.bv 6)), (.not (.lt (.il 1420) (.iv 9))), (.not (.lt (.iv 9) (.il 28)))]),
    (.out 2 .ret [(.bv 5), (.lt (.iv 9) (.add (.len (.sv 8)) (.il 20))), (.not (.lt (.il 4000) (.len (.sv 8)))), (.eq (.iv 10) (.il 0)), (.eq (.iv 7) (.il 0)), (.not (.bv 6)), (.not (.lt (.il 1420) (.iv 9))), (.not (.lt (.iv 9) (.il 28)))]),
    (.out 3 .ret [(.le (.add (.len (.sv 8)) (.il 20)) (.iv 9)), (.not (.bv 5)), (.lt (.iv 9) (.add (.len (.sv 8)) (.il 20))), (.not (.lt (.il 4000) (.len (.sv 8)))), (.eq (.iv 10) (.il 0)), (.eq (.iv 7) (.il 0)), (.not (.bv 6)), (.not (.lt (.il 1420) (.iv 9))), (.not (.lt (.iv 9) (.il 28)))]),
    (.out 4 .normal [(.not (.le (.add (.len (.sv 8)) (.il 20)) (.iv 9))), (.not (.bv 5)), (.lt (.iv 9) (.add (.len (.sv 8)) (.il 20))), (.not (.lt (.il 4000) (.len (.sv 8)))), (.eq (.iv 10) (.il 0)), (.eq (.iv 7) (.il 0)), (.not (.bv 6)), (.not (.lt (.il 1420) (.iv 9))), (.not (.lt (.iv 9) (.il 28)))]),
    (.out 5 .ret [(.not (.lt (.iv 9) (.add (.len (.sv 8)) (.il 20)))), (.not (.lt (.il 4000) (.len (.sv 8)))), (.eq (.iv 10) (.il 0)), (.eq (.iv 7) (.il 0)), (.not (.bv 6)), (.not (.lt (.il 1420) (.iv 9))), (.not (.lt (.iv 9) (.il 28)))]),
    (.out 6 .ret [(.lt (.il 4000) (.len (.sv 8))), (.eq (.iv 10) (.il 0)), (.eq (.iv 7) (.il 0)), (.not (.bv 6)), (.not (.lt (.il 1420) (.iv 9))), (.not (.lt (.iv 9) (.il 28)))]),
    (.out 7 .ret [(.bv 6), (.not (.lt (.il 1420) (.iv 9))), (.not (.lt (.iv 9) (.il 28)))]),
    (.out 8 .ret [(.lt (.il 1420) (.iv 9)), (.not (.lt (.iv 9) (.il 28)))]),
    (.out 9 .ret [(.lt (.iv 9) (.il 28))])] := by kernel_rfl
set_option maxRecDepth 100000 in
theorem gr_match : (matchS 0 (grT Try.prog Try.f89) (grS Try.prog Try.f89)).map noU = some [.i 11 (.il 0), .i 12 (.il 0), .c 0 tn] := by kernel_rfl
set_option maxRecDepth 100000 in
theorem gr_free : ((lfAt (gr0 Try.prog Try.f89) 4).free 40, (lfAt (gr0 Try.prog Try.f89) 4).free 41) = (true, true) := by kernel_rfl
set_option maxRecDepth 100000 in
theorem gr_run1 : shR 0 (some (grT Try.prog Try.f89)) (gr1 Try.prog Try.f89) = some 
    [(.must (.le (.mul (.il 8) (.iv 12)) (.ite (.lt (.mul (.il 8) (.add (.iv 12) (.dv (.add (.iv 9) (.il (-20))) (.il 8)))) (.len (.sv 8))) (.mul (.il 8) (.add (.iv 12) (.dv (.add (.iv 9) (.il (-20))) (.il 8)))) (.len (.sv 8)))) [(.lt (.mul (.il 8) (.iv 12)) (.len (.sv 8))), (.le (.iv 11) (.tb .len (.cv 0) (.il 0) (.il 0))), (.le (.tb .len (.cv 0) (.il 0) (.il 0)) (.iv 11))]),
    (.must (.le (.ite (.lt (.mul (.il 8) (.add (.iv 12) (.dv (.add (.iv 9) (.il (-20))) (.il 8)))) (.len (.sv 8))) (.mul (.il 8) (.add (.iv 12) (.dv (.add (.iv 9) (.il (-20))) (.il 8)))) (.len (.sv 8))) (.len (.sv 8))) [(.le (.mul (.il 8) (.iv 12)) (.ite (.lt (.mul (.il 8) (.add (.iv 12) (.dv (.add (.iv 9) (.il (-20))) (.il 8)))) (.len (.sv 8))) (.mul (.il 8) (.add (.iv 12) (.dv (.add (.iv 9) (.il (-20))) (.il 8)))) (.len (.sv 8)))), (.lt (.mul (.il 8) (.iv 12)) (.len (.sv 8))), (.le (.iv 11) (.tb .len (.cv 0) (.il 0) (.il 0))), (.le (.tb .len (.cv 0) (.il 0) (.il 0)) (.iv 11))]),
    (.back [(.i 11 (.add (.tb .len (.cv 0) (.il 0) (.il 0)) (.il 1))), (.i 12 (.add (.iv 12) (.dv (.add (.iv 9) (.il (-20))) (.il 8)))), (.c 0 (.tb .app (.cv 0) (.tb (.cons (.int .u32)) (.iv 0) (.tb (.cons (.int .u32)) (.iv 1) (.tb (.cons (.int .i64)) (.iv 2) (.tb (.cons (.int .i64)) (.iv 3) (.tb (.cons (.int .i64)) (.iv 4) (.tb (.cons .bool) (.bv 5) (.tb (.cons .bool) (.lt (.mul (.il 8) (.add (.iv 12) (.dv (.add (.iv 9) (.il (-20))) (.il 8)))) (.len (.sv 8))) (.tb (.cons (.int .i64)) (.iv 12) (.tb (.cons .str) (.cut (.sv 8) (.mul (.il 8) (.iv 12)) (.ite (.lt (.mul (.il 8) (.add (.iv 12) (.dv (.add (.iv 9) (.il (-20))) (.il 8)))) (.len (.sv 8))) (.mul (.il 8) (.add (.iv 12) (.dv (.add (.iv 9) (.il (-20))) (.il 8)))) (.len (.sv 8)))) (.tb .row (.il 0) (.il 0) (.il 0)) (.il 0)) (.il 0)) (.il 0)) (.il 0)) (.il 0)) (.il 0)) (.il 0)) (.il 0)) (.il 0)) (.il 0)))] [(.le (.ite (.lt (.mul (.il 8) (.add (.iv 12) (.dv (.add (.iv 9) (.il (-20))) (.il 8)))) (.len (.sv 8))) (.mul (.il 8) (.add (.iv 12) (.dv (.add (.iv 9) (.il (-20))) (.il 8)))) (.len (.sv 8))) (.len (.sv 8))), (.le (.mul (.il 8) (.iv 12)) (.ite (.lt (.mul (.il 8) (.add (.iv 12) (.dv (.add (.iv 9) (.il (-20))) (.il 8)))) (.len (.sv 8))) (.mul (.il 8) (.add (.iv 12) (.dv (.add (.iv 9) (.il (-20))) (.il 8)))) (.len (.sv 8)))), (.lt (.mul (.il 8) (.iv 12)) (.len (.sv 8))), (.le (.iv 11) (.tb .len (.cv 0) (.il 0) (.il 0))), (.le (.tb .len (.cv 0) (.il 0) (.il 0)) (.iv 11))]),
    (.out 3 (.exit 0) [(.not (.lt (.mul (.il 8) (.iv 12)) (.len (.sv 8)))), (.le (.iv 11) (.tb .len (.cv 0) (.il 0) (.il 0))), (.le (.tb .len (.cv 0) (.il 0) (.il 0)) (.iv 11))])] := by kernel_rfl
set_option maxRecDepth 100000 in
theorem gr_rets : [0, 1, 2, 3, 5, 6, 7, 8, 9].map (fun k => retS Try.prog (lfAt (gr0 Try.prog Try.f89) k) Try.f89.results.toList) = [(.one (.il 1)), (.one (.iv 10)), (.one (.il 2)), (.two 4), (.two 4), (.one (.il 2)), (.one (.il 1)), (.one (.il 1)), (.one (.il 1))].map fun (x : FsV) => some x.v := by kernel_rfl
set_option maxRecDepth 100000 in
theorem gr_hp5 : (lfAt (gr0 Try.prog Try.f89) 5).hp.head? = some ⟨4, 24, pkC, true, none, .no⟩ := by kernel_rfl
set_option maxRecDepth 100000 in
theorem gr_fin : smR Try.prog Try.f89 0 (run Try.prog [] 10 400 0 (.code (aft (.exit 0) grP (bodyOf Try.f89))) (lfAt (gr1 Try.prog Try.f89) 3)) = some
    [.ret (.tup [(.c (.slt 40 9 (.il 0) (.iv 11) (.il 0))), (.c (.int .i64 (.il 0)))]) [fsTb] (.not (.lt (.mul (.il 8) (.iv 12)) (.len (.sv 8))) :: fsPc)] := by kernel_rfl
theorem gr_cx1 : (grT Try.prog Try.f89).cx = grCx1 := by kernel_rfl
theorem gr_loop : Code.loop (lpBody (Sy.sub grP (bodyOf Try.f89))) = Sy.sub grP (bodyOf Try.f89) := by kernel_rfl
end Go.Proofs.Ythjigajielhkfaa
