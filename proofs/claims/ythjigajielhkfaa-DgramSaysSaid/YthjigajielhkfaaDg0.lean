/- DgramSays: runs with letters. Printed by gen_dg.py. -/
import Derived.Test.YthjigajielhkfaaSyZ
namespace Go.Proofs.Ythjigajielhkfaa
open Go.RowKit Sy
set_option linter.unusedVariables false
set_option linter.unusedSimpArgs false

def grLv : List Kd := [.int .u32, .int .i64, .int .u32, .int .i64, .str]
def dgP : List Nat := [1, 1, 1, 0]
def i64B (n : Nat) : Bd := ⟨.iv n, -9223372036854775808, 9223372036854775807⟩
def u32B (n : Nat) : Bd := ⟨.iv n, 0, 4294967295⟩
def dgQ (t : Tm) : Bk := ⟨0, 215, [.int .i64 (.iv 4), .int .i64 (.iv 3), .int .i64 (.iv 7)], true, none, .arr [⟨0, grLv, 16, t⟩]⟩
def dgQ0 : Bk := ⟨0, 215, [.int .i64 (.il 0), .int .i64 (.il 0), .int .i64 (.il 0)], true, none, .arr [⟨0, grLv, 16, .cv 0⟩]⟩
def dgR : Bk := ⟨2, 105, [.slt 40 5 (.iv 5) (.iv 3) (.iv 6), .int .i64 (.iv 7)], true, none, .no⟩
def dgT' (t : Tm) : Bk := ⟨40, 48, [], true, none, .tab grLv t⟩
def dgPre (P : Program) (fn : Func) : Rs := run P [] 10 400 0 (.code (pre dgP (bodyOf fn))) (enterS fn [.one (.c (.opq 0))] ⟨[], [], ⟨[], []⟩, 0⟩)
def dgS1 (P : Program) (fn : Func) : Sy.St := { lfAt (dgPre P fn) 0 with hp := replHp dgQ0 (lfAt (dgPre P fn) 0).hp }
def dgS (P : Program) (fn : Func) : Sy.St := tabCell (dgS1 P fn) 2 0 40 48 grLv
def dgI (P : Program) (fn : Func) : Sy.St := saysIn (dgS P fn) 21 22 23
def dgBs : List Bd := [⟨.iv 0, 0, 140737488355328⟩, ⟨.iv 1, 0, 140737488355328⟩, ⟨.iv 3, 0, 16⟩, ⟨.iv 4, 0, 15⟩, ⟨.iv 5, 0, 16⟩, i64B 7, ⟨tlen (.cv 0), 16, 16⟩, ⟨tlen (.cv 1), 0, 16⟩]
def dgCx : Cx := ⟨dgBs, [.le (.add (.iv 5) (.iv 3)) (tlen (.cv 1))]⟩
def dgTp (P : Program) (fn : Func) : Sy.St := tplS (dgI P fn) (saysB fn dgP) [(23, .one (.c (.int .i64 (.iv 0))))] [dgQ (.cv 0), dgR, dgT' (.cv 1)] dgCx 50
def xBs (m k : Int) : List Bd := [⟨.md (.iv 100) (.il m), k, k⟩, i64B 100, i64B 101, u32B 129, i64B 130, u32B 131, i64B 132, ⟨.len (.sv 133), 0, 9223372036854775807⟩]
def dgX (P : Program) (fn : Func) : Sy.St := saysX P fn dgP (dgTp P fn) 0 200 25 26 6
def dgOp (P : Program) (fn : Func) (k : Int) : Rs := run P [ofSp] 10 400 0 (.code (aft .normal rowP (saysB fn dgP))) { dgX P fn with cx := ⟨xBs 4 k ++ dgBs, dgCx.pc⟩ }
/-- The first row of both, in letters. -/
def frow : Tm := .tb (.cons (.int .u32)) (.iv 20) (.tb (.cons (.int .i64)) (.iv 21) (.tb (.cons (.int .u32)) (.iv 22) (.tb (.cons (.int .i64)) (.iv 23) (.tb (.cons .str) (.sv 24) trow (.il 0)) (.il 0)) (.il 0)) (.il 0)) (.il 0)
def frBs : List Bd := [u32B 20, i64B 21, u32B 22, i64B 23, ⟨.len (.sv 24), 0, 9223372036854775807⟩]
def fT0 : Tm := .tb .set (.cv 0) (.iv 4) frow
def fT1 : Tm := .tb .set (.cv 1) (.iv 5) frow
def cx1 (k : Int) : Cx := ⟨⟨.iv 3, 1, 16⟩ :: (xBs 4 k ++ (frBs ++ dgBs)), .lt (.iv 5) (tlen (.cv 1)) :: dgCx.pc⟩
def cx0 (k : Int) : Cx := ⟨⟨.iv 3, 0, 0⟩ :: (xBs 4 k ++ dgBs), dgCx.pc⟩
def dgX1 (P : Program) (fn : Func) (k : Int) : Sy.St := { dgX P fn with hp := replHp (dgQ fT0) (replHp (dgT' fT1) (dgX P fn).hp), cx := cx1 k }
def dgX0 (P : Program) (fn : Func) (k : Int) : Sy.St := { dgX P fn with cx := cx0 k }
def dgO1 (P : Program) (fn : Func) (k : Int) : Rs := run P [ofSp] 10 400 0 (.code (aft .normal rowP (saysB fn dgP))) (dgX1 P fn k)
def dgO0 (P : Program) (fn : Func) (k : Int) : Rs := run P [ofSp] 10 400 0 (.code (aft .normal rowP (saysB fn dgP))) (dgX0 P fn k)
set_option maxRecDepth 100000 in
theorem dg_pre : shR 0 none (dgPre Try.prog Try.f9) = some [.out 0 .normal []] := by kernel_rfl
set_option maxRecDepth 100000 in
theorem dg_code : SaysCode Try.prog Try.f9 dgP (dgTp Try.prog Try.f9) 0 200 0 21 22 23 25 26 6 where
  rg4 := ⟨Sy.opAt (Sy.sub (dgP ++ [0]) (bodyOf Try.f9)) 0, Sy.opAt (Sy.sub (dgP ++ [0]) (bodyOf Try.f9)) 1, Sy.opAt (Sy.sub (dgP ++ [0]) (bodyOf Try.f9)) 2, by kernel_rfl, ⟨by kernel_rfl, by kernel_rfl, by kernel_rfl⟩, ⟨by kernel_rfl, by kernel_rfl, by kernel_rfl⟩, ⟨by kernel_rfl, by kernel_rfl, by kernel_rfl⟩⟩
  at_ := by kernel_rfl
  hd := by kernel_rfl
  row := ⟨Sy.opAt (Sy.sub rowP (saysB Try.f9 dgP)) 0, Sy.opAt (Sy.sub rowP (saysB Try.f9 dgP)) 1, Sy.opAt (Sy.sub rowP (saysB Try.f9 dgP)) 2, Sy.opAt (Sy.sub rowP (saysB Try.f9 dgP)) 3, by kernel_rfl, ⟨by kernel_rfl, by kernel_rfl, by kernel_rfl⟩, ⟨by kernel_rfl, by kernel_rfl, by kernel_rfl⟩, ⟨by kernel_rfl, by kernel_rfl, by kernel_rfl⟩, ⟨by kernel_rfl, by kernel_rfl, by kernel_rfl⟩⟩
  lo1 := by kernel_rfl
  any1 := by kernel_rfl
  tx := by kernel_rfl
  ti := by kernel_rfl
  hnr := by decide
  free := by kernel_rfl
  e1 := by kernel_rfl
  e2 := by kernel_rfl
  e3 := by kernel_rfl
  e4 := by kernel_rfl
  out := by kernel_rfl
  uS := Try.underlying39
  uE := ⟨_, Try.underlying52, rfl⟩
  inf := step_info
  zero := by kernel_rfl
  zlen := by kernel_rfl
set_option maxRecDepth 100000 in
theorem dg_in : (matchS 0 (dgTp Try.prog Try.f9) (dgI Try.prog Try.f9)).map noU = some [.i 0 (.il 0), .i 5 (.il 0), .i 3 (.il 0), .i 6 (.il 0), .i 7 (.il 0), .i 4 (.il 0), .i 3 (.il 0), .i 7 (.il 0), .c 1 tn] := by kernel_rfl
set_option maxRecDepth 100000 in
theorem dg_free : (((dgS1 Try.prog Try.f9).free 40, (dgS1 Try.prog Try.f9).free 41), ((dgS Try.prog Try.f9).tm[0]?, ((dgS Try.prog Try.f9).put (some 21) (.one (.c (.opq 0)))).tm[21]?)) = ((true, true), (some (.one (.c (.opq 0))), some (.one (.c (.opq 0))))) := by kernel_rfl
set_option maxRecDepth 100000 in
theorem dg_okP : okP dgP (bodyOf Try.f9) = true := by kernel_rfl
set_option maxRecDepth 100000 in
theorem dg_q0 : Sy.find 0 (lfAt (dgPre Try.prog Try.f9) 0).hp = some ⟨0, 215, (Go.Proofs.Ythjigajielhkfaa.Sy.baseS [.int .u32 (.il 0), .int .i64 (.il 0), .int .u32 (.il 0), .int .i64 (.il 0), .str (.sl [])] 16) ++ [.int .i64 (.il 0), .int .i64 (.il 0), .int .i64 (.il 0)], true, none, .no⟩ := by kernel_rfl
set_option maxRecDepth 100000 in
theorem dg_cx : (dgTp Try.prog Try.f9).cx = dgCx := by kernel_rfl
set_option maxRecDepth 100000 in
theorem dg_xq : (Sy.find 0 (dgX Try.prog Try.f9).hp, Sy.find 40 (dgX Try.prog Try.f9).hp) = (some (dgQ (.cv 0)), some (dgT' (.cv 1))) := by kernel_rfl
/-- The letters of the first row. -/
def frAs : List As := [.i 20 (tget (.int .u32) 0 (.cv 0) (.iv 4)), .i 21 (tget (.int .i64) 1 (.cv 0) (.iv 4)), .i 22 (tget (.int .u32) 2 (.cv 0) (.iv 4)), .i 23 (tget (.int .i64) 3 (.cv 0) (.iv 4)), .s 24 (tget .str 4 (.cv 0) (.iv 4))]
set_option maxRecDepth 100000 in
theorem dg_sub : (subT frAs (dgX Try.prog Try.f9).tm, (dgX Try.prog Try.f9).hp.map (subBk frAs)) = (some (dgX Try.prog Try.f9).tm, (dgX Try.prog Try.f9).hp.map some) := by kernel_rfl
set_option maxRecDepth 100000 in
theorem dg_op0 : shR 0 (some (dgTp Try.prog Try.f9)) (dgOp Try.prog Try.f9 0) = some 
    [(.back [(.i 0 (.add (.iv 0) (.il 1))), (.i 7 (.wrap .i64 (.add (.iv 7) (.il 1)))), (.i 7 (.wrap .i64 (.add (.iv 7) (.il 1))))] [(.eq (.iv 3) (.il 16)), (.le (.add (.iv 5) (.iv 3)) (.tb .len (.cv 1) (.il 0) (.il 0)))]),
    (.out 1 .ret [(.lt (.il 15) (.iv 3)), (.not (.eq (.iv 3) (.il 16))), (.le (.add (.iv 5) (.iv 3)) (.tb .len (.cv 1) (.il 0) (.il 0)))]),
    (.back [(.i 0 (.add (.iv 0) (.il 1))), (.i 5 (.il 0)), (.i 3 (.add (.iv 3) (.il 1))), (.i 6 (.il 0)), (.i 3 (.add (.iv 3) (.il 1))), (.c 0 (.tb .set (.cv 0) (.md (.add (.iv 4) (.iv 3)) (.il 16)) (.tb (.cons (.int .u32)) (.iv 129) (.tb (.cons (.int .i64)) (.iv 130) (.tb (.cons (.int .u32)) (.iv 131) (.tb (.cons (.int .i64)) (.iv 132) (.tb (.cons .str) (.sv 133) (.tb .row (.il 0) (.il 0) (.il 0)) (.il 0)) (.il 0)) (.il 0)) (.il 0)) (.il 0)))), (.c 1 (.tb .app (.tb .cut (.cv 1) (.iv 5) (.add (.iv 5) (.iv 3))) (.tb (.cons (.int .u32)) (.iv 129) (.tb (.cons (.int .i64)) (.iv 130) (.tb (.cons (.int .u32)) (.iv 131) (.tb (.cons (.int .i64)) (.iv 132) (.tb (.cons .str) (.sv 133) (.tb .row (.il 0) (.il 0) (.il 0)) (.il 0)) (.il 0)) (.il 0)) (.il 0)) (.il 0)) (.il 0)))] [(.not (.lt (.il 15) (.iv 3))), (.not (.eq (.iv 3) (.il 16))), (.le (.add (.iv 5) (.iv 3)) (.tb .len (.cv 1) (.il 0) (.il 0)))])] := by kernel_rfl
set_option maxRecDepth 100000 in
theorem dg_op1 : shR 0 (some (dgTp Try.prog Try.f9)) (dgOp Try.prog Try.f9 1) = some 
    [(.back [(.i 0 (.add (.iv 0) (.il 1))), (.i 7 (.wrap .i64 (.add (.iv 7) (.il 1)))), (.i 7 (.wrap .i64 (.add (.iv 7) (.il 1))))] [(.eq (.iv 3) (.il 16)), (.le (.add (.iv 5) (.iv 3)) (.tb .len (.cv 1) (.il 0) (.il 0)))]),
    (.out 1 .ret [(.lt (.il 15) (.iv 3)), (.not (.eq (.iv 3) (.il 16))), (.le (.add (.iv 5) (.iv 3)) (.tb .len (.cv 1) (.il 0) (.il 0)))]),
    (.back [(.i 0 (.add (.iv 0) (.il 1))), (.i 5 (.il 0)), (.i 3 (.add (.iv 3) (.il 1))), (.i 6 (.il 0)), (.i 3 (.add (.iv 3) (.il 1))), (.c 0 (.tb .set (.cv 0) (.md (.add (.iv 4) (.iv 3)) (.il 16)) (.tb (.cons (.int .u32)) (.iv 129) (.tb (.cons (.int .i64)) (.iv 130) (.tb (.cons (.int .u32)) (.iv 131) (.tb (.cons (.int .i64)) (.iv 132) (.tb (.cons .str) (.sv 133) (.tb .row (.il 0) (.il 0) (.il 0)) (.il 0)) (.il 0)) (.il 0)) (.il 0)) (.il 0)))), (.c 1 (.tb .app (.tb .cut (.cv 1) (.iv 5) (.add (.iv 5) (.iv 3))) (.tb (.cons (.int .u32)) (.iv 129) (.tb (.cons (.int .i64)) (.iv 130) (.tb (.cons (.int .u32)) (.iv 131) (.tb (.cons (.int .i64)) (.iv 132) (.tb (.cons .str) (.sv 133) (.tb .row (.il 0) (.il 0) (.il 0)) (.il 0)) (.il 0)) (.il 0)) (.il 0)) (.il 0)) (.il 0)))] [(.not (.lt (.il 15) (.iv 3))), (.not (.eq (.iv 3) (.il 16))), (.le (.add (.iv 5) (.iv 3)) (.tb .len (.cv 1) (.il 0) (.il 0)))])] := by kernel_rfl
set_option maxRecDepth 100000 in
theorem dg_o02 : shR 0 (some (dgTp Try.prog Try.f9)) (dgO0 Try.prog Try.f9 2) = some 
    [(.back [(.i 0 (.add (.iv 0) (.il 1)))] [(.le (.add (.iv 5) (.iv 3)) (.tb .len (.cv 1) (.il 0) (.il 0)))])] := by kernel_rfl
set_option maxRecDepth 100000 in
theorem dg_o03 : shR 0 (some (dgTp Try.prog Try.f9)) (dgO0 Try.prog Try.f9 3) = some 
    [(.back [(.i 0 (.add (.iv 0) (.il 1)))] [(.le (.add (.iv 5) (.iv 3)) (.tb .len (.cv 1) (.il 0) (.il 0)))])] := by kernel_rfl
set_option maxRecDepth 100000 in
theorem dg_o12 : shR 0 (some (dgTp Try.prog Try.f9)) (dgO1 Try.prog Try.f9 2) = some 
    [(.must (.le (.il 0) (.ite (.lt (.len (.sv 24)) (.ite (.lt (.iv 101) (.il 0)) (.il 0) (.iv 101))) (.len (.sv 24)) (.ite (.lt (.iv 101) (.il 0)) (.il 0) (.iv 101)))) [(.lt (.iv 5) (.tb .len (.cv 1) (.il 0) (.il 0))), (.le (.add (.iv 5) (.iv 3)) (.tb .len (.cv 1) (.il 0) (.il 0)))]),
    (.must (.le (.ite (.lt (.len (.sv 24)) (.ite (.lt (.iv 101) (.il 0)) (.il 0) (.iv 101))) (.len (.sv 24)) (.ite (.lt (.iv 101) (.il 0)) (.il 0) (.iv 101))) (.len (.sv 24))) [(.le (.il 0) (.ite (.lt (.len (.sv 24)) (.ite (.lt (.iv 101) (.il 0)) (.il 0) (.iv 101))) (.len (.sv 24)) (.ite (.lt (.iv 101) (.il 0)) (.il 0) (.iv 101)))), (.lt (.iv 5) (.tb .len (.cv 1) (.il 0) (.il 0))), (.le (.add (.iv 5) (.iv 3)) (.tb .len (.cv 1) (.il 0) (.il 0)))]),
    (.must (.le (.il 0) (.ite (.lt (.ite (.lt (.il 0) (.iv 101)) (.iv 101) (.il 0)) (.len (.sv 24))) (.ite (.lt (.il 0) (.iv 101)) (.iv 101) (.il 0)) (.len (.sv 24)))) [(.le (.ite (.lt (.len (.sv 24)) (.ite (.lt (.iv 101) (.il 0)) (.il 0) (.iv 101))) (.len (.sv 24)) (.ite (.lt (.iv 101) (.il 0)) (.il 0) (.iv 101))) (.len (.sv 24))), (.le (.il 0) (.ite (.lt (.len (.sv 24)) (.ite (.lt (.iv 101) (.il 0)) (.il 0) (.iv 101))) (.len (.sv 24)) (.ite (.lt (.iv 101) (.il 0)) (.il 0) (.iv 101)))), (.lt (.iv 5) (.tb .len (.cv 1) (.il 0) (.il 0))), (.le (.add (.iv 5) (.iv 3)) (.tb .len (.cv 1) (.il 0) (.il 0)))]),
    (.must (.le (.ite (.lt (.ite (.lt (.il 0) (.iv 101)) (.iv 101) (.il 0)) (.len (.sv 24))) (.ite (.lt (.il 0) (.iv 101)) (.iv 101) (.il 0)) (.len (.sv 24))) (.len (.sv 24))) [(.le (.il 0) (.ite (.lt (.ite (.lt (.il 0) (.iv 101)) (.iv 101) (.il 0)) (.len (.sv 24))) (.ite (.lt (.il 0) (.iv 101)) (.iv 101) (.il 0)) (.len (.sv 24)))), (.le (.ite (.lt (.len (.sv 24)) (.ite (.lt (.iv 101) (.il 0)) (.il 0) (.iv 101))) (.len (.sv 24)) (.ite (.lt (.iv 101) (.il 0)) (.il 0) (.iv 101))) (.len (.sv 24))), (.le (.il 0) (.ite (.lt (.len (.sv 24)) (.ite (.lt (.iv 101) (.il 0)) (.il 0) (.iv 101))) (.len (.sv 24)) (.ite (.lt (.iv 101) (.il 0)) (.il 0) (.iv 101)))), (.lt (.iv 5) (.tb .len (.cv 1) (.il 0) (.il 0))), (.le (.add (.iv 5) (.iv 3)) (.tb .len (.cv 1) (.il 0) (.il 0)))]),
    (.back [(.i 0 (.add (.iv 0) (.il 1))), (.i 5 (.add (.iv 5) (.il 1))), (.i 3 (.add (.iv 3) (.il (-1)))), (.i 6 (.iv 5)), (.i 4 (.md (.add (.iv 4) (.il 1)) (.il 16))), (.i 3 (.add (.iv 3) (.il (-1)))), (.c 0 (.tb .set (.tb .set (.cv 0) (.iv 4) (.tb (.cons (.int .u32)) (.iv 20) (.tb (.cons (.int .i64)) (.iv 21) (.tb (.cons (.int .u32)) (.iv 22) (.tb (.cons (.int .i64)) (.iv 23) (.tb (.cons .str) (.sv 24) (.tb .row (.il 0) (.il 0) (.il 0)) (.il 0)) (.il 0)) (.il 0)) (.il 0)) (.il 0))) (.iv 4) (.tb (.cons (.int .u32)) (.il 0) (.tb (.cons (.int .i64)) (.il 0) (.tb (.cons (.int .u32)) (.il 0) (.tb (.cons (.int .i64)) (.il 0) (.tb (.cons .str) (.sl []) (.tb .row (.il 0) (.il 0) (.il 0)) (.il 0)) (.il 0)) (.il 0)) (.il 0)) (.il 0)))), (.c 1 (.tb .set (.cv 1) (.iv 5) (.tb (.cons (.int .u32)) (.iv 20) (.tb (.cons (.int .i64)) (.iv 21) (.tb (.cons (.int .u32)) (.iv 22) (.tb (.cons (.int .i64)) (.iv 23) (.tb (.cons .str) (.sv 24) (.tb .row (.il 0) (.il 0) (.il 0)) (.il 0)) (.il 0)) (.il 0)) (.il 0)) (.il 0))))] [(.seq (.cut (.sv 24) (.il 0) (.ite (.lt (.len (.sv 24)) (.ite (.lt (.iv 101) (.il 0)) (.il 0) (.iv 101))) (.len (.sv 24)) (.ite (.lt (.iv 101) (.il 0)) (.il 0) (.iv 101)))) (.cut (.sv 24) (.il 0) (.ite (.lt (.ite (.lt (.il 0) (.iv 101)) (.iv 101) (.il 0)) (.len (.sv 24))) (.ite (.lt (.il 0) (.iv 101)) (.iv 101) (.il 0)) (.len (.sv 24))))), (.le (.ite (.lt (.ite (.lt (.il 0) (.iv 101)) (.iv 101) (.il 0)) (.len (.sv 24))) (.ite (.lt (.il 0) (.iv 101)) (.iv 101) (.il 0)) (.len (.sv 24))) (.len (.sv 24))), (.le (.il 0) (.ite (.lt (.ite (.lt (.il 0) (.iv 101)) (.iv 101) (.il 0)) (.len (.sv 24))) (.ite (.lt (.il 0) (.iv 101)) (.iv 101) (.il 0)) (.len (.sv 24)))), (.le (.ite (.lt (.len (.sv 24)) (.ite (.lt (.iv 101) (.il 0)) (.il 0) (.iv 101))) (.len (.sv 24)) (.ite (.lt (.iv 101) (.il 0)) (.il 0) (.iv 101))) (.len (.sv 24))), (.le (.il 0) (.ite (.lt (.len (.sv 24)) (.ite (.lt (.iv 101) (.il 0)) (.il 0) (.iv 101))) (.len (.sv 24)) (.ite (.lt (.iv 101) (.il 0)) (.il 0) (.iv 101)))), (.lt (.iv 5) (.tb .len (.cv 1) (.il 0) (.il 0))), (.le (.add (.iv 5) (.iv 3)) (.tb .len (.cv 1) (.il 0) (.il 0)))]),
    (.out 5 .ret [(.not (.seq (.cut (.sv 24) (.il 0) (.ite (.lt (.len (.sv 24)) (.ite (.lt (.iv 101) (.il 0)) (.il 0) (.iv 101))) (.len (.sv 24)) (.ite (.lt (.iv 101) (.il 0)) (.il 0) (.iv 101)))) (.cut (.sv 24) (.il 0) (.ite (.lt (.ite (.lt (.il 0) (.iv 101)) (.iv 101) (.il 0)) (.len (.sv 24))) (.ite (.lt (.il 0) (.iv 101)) (.iv 101) (.il 0)) (.len (.sv 24)))))), (.le (.ite (.lt (.ite (.lt (.il 0) (.iv 101)) (.iv 101) (.il 0)) (.len (.sv 24))) (.ite (.lt (.il 0) (.iv 101)) (.iv 101) (.il 0)) (.len (.sv 24))) (.len (.sv 24))), (.le (.il 0) (.ite (.lt (.ite (.lt (.il 0) (.iv 101)) (.iv 101) (.il 0)) (.len (.sv 24))) (.ite (.lt (.il 0) (.iv 101)) (.iv 101) (.il 0)) (.len (.sv 24)))), (.le (.ite (.lt (.len (.sv 24)) (.ite (.lt (.iv 101) (.il 0)) (.il 0) (.iv 101))) (.len (.sv 24)) (.ite (.lt (.iv 101) (.il 0)) (.il 0) (.iv 101))) (.len (.sv 24))), (.le (.il 0) (.ite (.lt (.len (.sv 24)) (.ite (.lt (.iv 101) (.il 0)) (.il 0) (.iv 101))) (.len (.sv 24)) (.ite (.lt (.iv 101) (.il 0)) (.il 0) (.iv 101)))), (.lt (.iv 5) (.tb .len (.cv 1) (.il 0) (.il 0))), (.le (.add (.iv 5) (.iv 3)) (.tb .len (.cv 1) (.il 0) (.il 0)))])] := by kernel_rfl
set_option maxRecDepth 100000 in
theorem dg_o13 : shR 0 (some (dgTp Try.prog Try.f9)) (dgO1 Try.prog Try.f9 3) = some 
    [(.back [(.i 0 (.add (.iv 0) (.il 1))), (.c 0 (.tb .set (.cv 0) (.iv 4) (.tb (.cons (.int .u32)) (.iv 20) (.tb (.cons (.int .i64)) (.iv 21) (.tb (.cons (.int .u32)) (.iv 22) (.tb (.cons (.int .i64)) (.iv 23) (.tb (.cons .str) (.sv 24) (.tb .row (.il 0) (.il 0) (.il 0)) (.il 0)) (.il 0)) (.il 0)) (.il 0)) (.il 0)))), (.c 1 (.tb .set (.cv 1) (.iv 5) (.tb (.cons (.int .u32)) (.iv 20) (.tb (.cons (.int .i64)) (.iv 21) (.tb (.cons (.int .u32)) (.iv 22) (.tb (.cons (.int .i64)) (.iv 23) (.tb (.cons .str) (.sv 24) (.tb .row (.il 0) (.il 0) (.il 0)) (.il 0)) (.il 0)) (.il 0)) (.il 0)) (.il 0))))] [(.lt (.iv 5) (.tb .len (.cv 1) (.il 0) (.il 0))), (.le (.add (.iv 5) (.iv 3)) (.tb .len (.cv 1) (.il 0) (.il 0)))])] := by kernel_rfl
set_option maxRecDepth 100000 in
theorem dg_end : smR Try.prog Try.f9 0 (run Try.prog [] 10 400 0 (.code (aft .normal (dgP ++ [1]) (bodyOf Try.f9))) (lfAt (saysHd Try.prog Try.f9 dgP (dgTp Try.prog Try.f9) 0) 1)) = some
    [.ret (.one (.c (.bool (.bl true)))) [dgT' (.cv 1)] [.not (.lt (.iv 0) (.iv 1)), .le (.add (.iv 5) (.iv 3)) (tlen (.cv 1))]] := by kernel_rfl
end Go.Proofs.Ythjigajielhkfaa
