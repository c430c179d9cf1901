/- PortsSays: runs with letters. -/
import Derived.Test.YthjigajielhkfaaPs
namespace Go.Proofs.Ythjigajielhkfaa
open Go.RowKit Sy
set_option linter.unusedVariables false
set_option linter.unusedSimpArgs false

def lwP : List Nat := [1, 1, 1, 0]
def lwO (l k : Nat) (T : TypeId) : Bk := ⟨l, T, [.slt k 7 (.il 0) (.iv 3) (.il 0)], true, none, .no⟩
def lwTb (k : Nat) : Bk := ⟨k, 50, [], true, none, .tab bdLv (.cv 0)⟩
def lwPre (P : Program) (fn : Func) : Rs := run P [] 10 400 0 (.code (pre lwP (bodyOf fn))) (enterS fn [.one (.c (.opq 0))] ⟨[], [], ⟨[], []⟩, 0⟩)
def lwS1 (P : Program) (fn : Func) : Sy.St := tabCell (lfAt (lwPre P fn) 0) 0 0 40 50 bdLv
def lwS (P : Program) (fn : Func) : Sy.St := tabCell (lwS1 P fn) 2 0 60 50 bdLv
def lwI (P : Program) (fn : Func) : Sy.St := saysIn (lwS P fn) 26 27 28
def lwBs : List Bd := [⟨.iv 0, 0, 140737488355328⟩, ⟨.iv 1, 0, 140737488355328⟩, ⟨.iv 3, 0, 32⟩, ⟨tlen (.cv 0), 0, 32⟩]
def lwCx : Cx := ⟨lwBs, [.le (.iv 3) (tlen (.cv 0)), .le (tlen (.cv 0)) (.iv 3)]⟩
def lwTp (P : Program) (fn : Func) : Sy.St := tplS (lwI P fn) (saysB fn lwP) [(28, .one (.c (.int .i64 (.iv 0))))] [lwO 0 40 252, lwO 2 60 147, lwTb 40, lwTb 60] lwCx 70
def xB5 (k : Int) : List Bd := [⟨.md (.iv 100) (.il 5), k, k⟩, i64B 100, i64B 101, u32B 134, i64B 135, u32B 136, i64B 137, i64B 138, u32B 139, i64B 140, u32B 141, i64B 142, i64B 144]
def lwX (P : Program) (fn : Func) : Sy.St := saysX P fn lwP (lwTp P fn) 0 200 30 31 6
def lwSp : List Sy.Spec := [ofSp, bindSp 111 252, bindSp 112 147, pickSp 113 252, pickSp 114 147, dropSp 110 252, dropSp 115 147, Go.Proofs.Ythjigajielhkfaa.findSp 116 252, Go.Proofs.Ythjigajielhkfaa.findSp 117 147, allSp 119 252, eqZ 118]
def lwOp (P : Program) (fn : Func) (k : Int) : Rs := run P lwSp 10 400 0 (.code (aft .normal rowP (saysB fn lwP))) { lwX P fn with cx := ⟨xB5 k ++ lwBs, lwCx.pc⟩ }
/-- The step's bound, its owner. -/
def xRow : Tm := .tb (.cons (.int .i64)) (.iv 138) (.tb (.cons (.int .u32)) (.iv 139) (.tb (.cons (.int .i64)) (.iv 140) (.tb (.cons (.int .u32)) (.iv 141) (.tb (.cons (.int .i64)) (.iv 142) (.tb (.cons .bool) (.bv 143) (.tb (.cons (.int .i64)) (.iv 144) trow (.il 0)) (.il 0)) (.il 0)) (.il 0)) (.il 0)) (.il 0)) (.il 0)
def xOwn : Tm := .tb (.cons (.int .i64)) (.iv 144) trow (.il 0)
def lwBack (t : Tm) : List Sh := [.back [.i 0 (.add (.iv 0) (.il 1)), .i 3 (tlen t), .i 3 (tlen t), .c 0 t, .c 0 t] lwCx.pc]
set_option maxRecDepth 100000 in
theorem lw_pre : shR 0 none (lwPre Try.prog Try.f14) = some [.out 0 .normal []] := by kernel_rfl
set_option maxRecDepth 100000 in
theorem lw_code : SaysCode Try.prog Try.f14 lwP (lwTp Try.prog Try.f14) 0 200 0 26 27 28 30 31 6 where
  rg4 := ⟨Sy.opAt (Sy.sub (lwP ++ [0]) (bodyOf Try.f14)) 0, Sy.opAt (Sy.sub (lwP ++ [0]) (bodyOf Try.f14)) 1, Sy.opAt (Sy.sub (lwP ++ [0]) (bodyOf Try.f14)) 2, by kernel_rfl, ⟨by kernel_rfl, by kernel_rfl, by kernel_rfl⟩, ⟨by kernel_rfl, by kernel_rfl, by kernel_rfl⟩, ⟨by kernel_rfl, by kernel_rfl, by kernel_rfl⟩⟩
  at_ := by kernel_rfl
  hd := by kernel_rfl
  row := ⟨Sy.opAt (Sy.sub rowP (saysB Try.f14 lwP)) 0, Sy.opAt (Sy.sub rowP (saysB Try.f14 lwP)) 1, Sy.opAt (Sy.sub rowP (saysB Try.f14 lwP)) 2, Sy.opAt (Sy.sub rowP (saysB Try.f14 lwP)) 3, by kernel_rfl, ⟨by kernel_rfl, by kernel_rfl, by kernel_rfl⟩, ⟨by kernel_rfl, by kernel_rfl, by kernel_rfl⟩, ⟨by kernel_rfl, by kernel_rfl, by kernel_rfl⟩, ⟨by kernel_rfl, by kernel_rfl, by kernel_rfl⟩⟩
  lo1 := by kernel_rfl
  any1 := by kernel_rfl
  tx := by kernel_rfl
  ti := by kernel_rfl
  hnr := by decide
  free := by kernel_rfl
  e1 := by kernel_rfl
  e2 := by kernel_rfl
  e3 := by kernel_rfl
  e4 := by kernel_rfl
  out := by kernel_rfl
  uS := Try.underlying39
  uE := ⟨_, Try.underlying52, rfl⟩
  inf := step_info
  zero := by kernel_rfl
  zlen := by kernel_rfl
set_option maxRecDepth 100000 in
theorem lw_in : (matchS 0 (lwTp Try.prog Try.f14) (lwI Try.prog Try.f14)).map noU = some [.i 0 (.il 0), .i 3 (.il 0), .i 3 (.il 0), .c 0 tn, .c 0 tn] := by kernel_rfl
set_option maxRecDepth 100000 in
theorem lw_free1 : ((lfAt (lwPre Try.prog Try.f14) 0).free 40, (lfAt (lwPre Try.prog Try.f14) 0).free 41) = (true, true) := by kernel_rfl
set_option maxRecDepth 100000 in
theorem lw_free2 : ((lwS1 Try.prog Try.f14).free 60, (lwS1 Try.prog Try.f14).free 61) = (true, true) := by kernel_rfl
set_option maxRecDepth 100000 in
theorem lw_tm : ((lwS Try.prog Try.f14).tm[0]?, ((lwS Try.prog Try.f14).put (some 26) (.one (.c (.opq 0)))).tm[26]?) = (some (.one (.c (.opq 0))), some (.one (.c (.opq 0)))) := by kernel_rfl
set_option maxRecDepth 100000 in
theorem lw_okP : okP lwP (bodyOf Try.f14) = true := by kernel_rfl
set_option maxRecDepth 100000 in
theorem lw_cx : (lwTp Try.prog Try.f14).cx = lwCx := by kernel_rfl
set_option maxRecDepth 100000 in
theorem lw_op0 : shR 0 (some (lwTp Try.prog Try.f14)) (lwOp Try.prog Try.f14 0) = some (lwBack (.ap 50 (.cv 0) xRow (.il 0))) := by kernel_rfl
set_option maxRecDepth 100000 in
theorem lw_op1 : shR 0 (some (lwTp Try.prog Try.f14)) (lwOp Try.prog Try.f14 1) = some (lwBack (.ap 50 (.cv 0) xRow (.il 0))) := by kernel_rfl
set_option maxRecDepth 100000 in
theorem lw_op2 : shR 0 (some (lwTp Try.prog Try.f14)) (lwOp Try.prog Try.f14 2) = some (lwBack (.ap 47 (.cv 0) xRow (.iv 101))) := by kernel_rfl
set_option maxRecDepth 100000 in
theorem lw_op3 : shR 0 (some (lwTp Try.prog Try.f14)) (lwOp Try.prog Try.f14 3) = some (lwBack (.ap 41 (.cv 0) xOwn (.il 0))) := by kernel_rfl
set_option maxRecDepth 100000 in
theorem lw_op4 : shR 0 (some (lwTp Try.prog Try.f14)) (lwOp Try.prog Try.f14 4) = some [.back [.i 0 (.add (.iv 0) (.il 1))] lwCx.pc] := by kernel_rfl
set_option maxRecDepth 100000 in
theorem lw_end : smR Try.prog Try.f14 0 (run Try.prog [] 10 400 0 (.code (aft .normal (lwP ++ [1]) (bodyOf Try.f14))) (lfAt (saysHd Try.prog Try.f14 lwP (lwTp Try.prog Try.f14) 0) 1)) = some
    [.ret (.one (.c (.bool (.bl true)))) [lwTb 60, lwTb 40] [.not (.lt (.iv 0) (.iv 1)), .le (.iv 3) (tlen (.cv 0)), .le (tlen (.cv 0)) (.iv 3)]] := by kernel_rfl
end Go.Proofs.Ythjigajielhkfaa
