/- The program's Put: runs with letters; what it does. -/
import Derived.Test.YtnjpoidpfcfbeaaIq9
namespace Go.Proofs.Ytnjpoidpfcfbeaa
open Go.RowKit Sy
set_option linter.unusedVariables false
set_option linter.unusedSimpArgs false

def qpP : List Nat := [1, 1, 1, 0, 1, 2]
def qpBs : List Bd := [B61 (.iv 0), B61 (.iv 1), ⟨.iv 2, -1, 2305843009213693952⟩, I64 (.iv 3), ⟨.len (.sv 0), 0, 140737488355328⟩]
def qpSt : Sy.St := ⟨[], [quO 0 true (.cv 0) (.cv 1) (.iv 0) (.iv 1) (.iv 2) (.bv 0)], ⟨qpBs, []⟩, 4⟩
def qpAr : List SV := [.one (.c (.ptr 0 0)), iI 3, .one (.c (.str (.sv 0))), bB 1]
def qp0 (P : Program) (fn : Func) : Rs := run P [] 10 400 4 (.code (pre qpP (bodyOf fn))) (enterS fn qpAr qpSt)
def qlBs : List Bd := [⟨.iv 4, 0, 4611686018427387904⟩, B61 (.iv 5), B61 (.iv 0), B61 (.iv 1), ⟨.iv 2, -1, 2305843009213693952⟩, ⟨.iv 3, -1152921504606846976, 1152921504606846976⟩, ⟨.len (.sv 0), 0, 140737488355328⟩, ⟨.add (.iv 3) (.iv 4), 0, 2305843009213693952⟩]
def qpT (P : Program) (fn : Func) : Sy.St := tplK (lfAt (qp0 P fn) 1) [0, 1, 2, 3, 8] [(9, iI 5), (10, iI 4)] [quO 0 true (.cv 2) (.cv 3) (.iv 0) (.iv 1) (.iv 2) (.bv 0)] ⟨qlBs, []⟩ 10
def qp1 (P : Program) (fn : Func) : Rs := run P [] 10 400 4 (.code (lpBody (Sy.sub qpP (bodyOf fn)))) (qpT P fn)
def qpR (fn : Func) : Code := Sy.sub [1, 1, 1, 1] (bodyOf fn)
def q1Bs : List Bd := [B61 (.iv 5), B61 (.iv 0), B61 (.iv 1), ⟨.iv 2, -1, 2305843009213693952⟩, ⟨.iv 3, -1152921504606846976, 1152921504606846976⟩, ⟨.len (.sv 0), 0, 140737488355328⟩]
def qpQ (P : Program) (fn : Func) : Sy.St := tplK (lfAt (qp1 P fn) 6) [0, 1, 2, 3, 8] [(9, iI 5)] [] ⟨q1Bs, []⟩ 10
def qp2 (P : Program) (fn : Func) : Rs := run P [beSp] 10 400 4 (.code (pre [1, 1, 0, 2] (qpR fn))) (qpQ P fn)
def l2Bs : List Bd := [B61 (.iv 7), B61 (.iv 5), B61 (.iv 0), B61 (.iv 8), ⟨.iv 6, -1, 2305843009213693952⟩]
def qpU (P : Program) (fn : Func) : Sy.St := tplK (lfAt (qp2 P fn) 0) [0, 8] [(9, iI 5), (14, iI 8)] [quO 0 true (.cv 2) (.cv 3) (.iv 0) (.iv 7) (.iv 6) (.bv 0)] ⟨l2Bs, []⟩ 10
def qp3 (P : Program) (fn : Func) : Rs := run P [] 10 400 4 (.code (lpBody (Sy.sub [1, 1, 0, 2] (qpR fn)))) (qpU P fn)
set_option maxRecDepth 100000 in
theorem qp_run0 : shR 4 none (qp0 Try.prog Try.f11) = some
    [.out 0 .ret [.bv 0, .not (.lt (.il 1152921504606846976) (.iv 3)), .not (.lt (.iv 3) (.il (-1152921504606846976)))],
    .out 1 .normal [.not (.bv 0), .not (.lt (.il 1152921504606846976) (.iv 3)), .not (.lt (.iv 3) (.il (-1152921504606846976)))],
    .out 2 .ret [.lt (.il 1152921504606846976) (.iv 3), .not (.lt (.iv 3) (.il (-1152921504606846976)))],
    .out 3 .ret [.lt (.iv 3) (.il (-1152921504606846976))]] := by kernel_rfl
set_option maxRecDepth 100000 in
theorem qp_ret : [0, 2, 3].map (fun k => retS Try.prog (lfAt (qp0 Try.prog Try.f11) k) Try.f11.results.toList) = [0, 2, 3].map (fun k => some (.one (.c (.bool (.bl false))))) := by kernel_rfl
set_option maxRecDepth 100000 in
theorem qp_hp : [0, 2, 3].map (fun k => (lfAt (qp0 Try.prog Try.f11) k).hp) = [0, 2, 3].map (fun k => qpSt.hp) := by kernel_rfl
def qpM0 : List As := [.i 5 (.add (.iv 1) (.sub (.il 2048) (.sub (.iv 1) (.iv 0)))), .i 4 (.ite (.lt (.il 0) (.sub (.iv 1) (.iv 3))) (.sub (.iv 1) (.iv 3)) (.il 0)), .c 2 (.cv 0), .c 3 (.cv 1)]
set_option maxRecDepth 100000 in
theorem qp_match1 : (matchS 4 (qpT Try.prog Try.f11) (lfAt (qp0 Try.prog Try.f11) 1)).map noU = some qpM0 := by kernel_rfl
def aT : Tm := .add (.iv 3) (.iv 4)
def qB : List As := [.i 4 (.add (.iv 4) (.il 1))]
def qBc : List As := [.i 4 (.add (.iv 4) (.il 1)), .c 2 (.tb .set (.cv 2) (.md aT (.il 2048)) (.tb (.cons (.int .u8)) (.byte (.sv 0) (.iv 4)) trow (.il 0))), .c 3 (.tb .set (.cv 3) (.md aT (.il 2048)) (.tb (.cons .bool) (.bl true) trow (.il 0)))]
def qLen : Tm := .lt (.iv 4) (.len (.sv 0))
set_option maxRecDepth 100000 in
theorem qp_run1 : shR 4 (some (qpT Try.prog Try.f11)) (qp1 Try.prog Try.f11) = some
    [.out 0 (.exit 0) [.le (.iv 2) aT, .le (.il 0) (.iv 2), .lt aT (.iv 5), qLen],
    .back qBc [.not (hsT (.cv 3) aT), .not (.le (.iv 2) aT), .le (.il 0) (.iv 2), .lt aT (.iv 5), qLen],
    .back qB [hsT (.cv 3) aT, .not (.le (.iv 2) aT), .le (.il 0) (.iv 2), .lt aT (.iv 5), qLen],
    .back qBc [.not (hsT (.cv 3) aT), .not (.le (.il 0) (.iv 2)), .lt aT (.iv 5), qLen],
    .back qB [hsT (.cv 3) aT, .not (.le (.il 0) (.iv 2)), .lt aT (.iv 5), qLen],
    .out 5 (.exit 0) [.not (.lt aT (.iv 5)), qLen],
    .out 6 (.exit 0) [.not qLen]] := by kernel_rfl
set_option maxRecDepth 100000 in
theorem qp_loop : Code.loop (lpBody (Sy.sub qpP (bodyOf Try.f11))) = Sy.sub qpP (bodyOf Try.f11) := by kernel_rfl
set_option maxRecDepth 100000 in
theorem qp_cxT : (qpT Try.prog Try.f11).cx = ⟨qlBs, []⟩ := by kernel_rfl
set_option maxRecDepth 100000 in
theorem qp_matchQ : [0, 5, 6].map (fun k => (matchS 4 (qpQ Try.prog Try.f11) (lfAt (qp1 Try.prog Try.f11) k)).map noU) = [0, 5, 6].map (fun k => some []) := by kernel_rfl
set_option maxRecDepth 100000 in
theorem qp_cxQ : (qpQ Try.prog Try.f11).cx = ⟨q1Bs, []⟩ := by kernel_rfl
def bT : Tm := .add (.iv 3) (.len (.sv 0))
def qE : List As := [.i 8 (.iv 1), .i 7 (.iv 1), .i 6 (.iv 2)]
set_option maxRecDepth 100000 in
theorem qp_run2 : shR 4 (some (qpU Try.prog Try.f11)) (qp2 Try.prog Try.f11) = some
    [.back [.i 8 (.iv 1), .i 7 (.iv 1), .i 6 bT] [.not (.ap 32 (.cv 3) bT (.iv 5)), .le bT (.iv 5), .le (.iv 1) bT, .lt (.iv 2) (.il 0), .bv 1],
    .back qE [.ap 32 (.cv 3) bT (.iv 5), .le bT (.iv 5), .le (.iv 1) bT, .lt (.iv 2) (.il 0), .bv 1],
    .back qE [.not (.le bT (.iv 5)), .le (.iv 1) bT, .lt (.iv 2) (.il 0), .bv 1],
    .back qE [.not (.le (.iv 1) bT), .lt (.iv 2) (.il 0), .bv 1],
    .back qE [.not (.lt (.iv 2) (.il 0)), .bv 1],
    .back qE [.not (.bv 1)]] := by kernel_rfl
set_option maxRecDepth 100000 in
theorem qp_cxU : (qpU Try.prog Try.f11).cx = ⟨l2Bs, []⟩ := by kernel_rfl
set_option maxRecDepth 100000 in
theorem qp_loop2 : Code.loop (lpBody (Sy.sub [1, 1, 0, 2] (qpR Try.f11))) = Sy.sub [1, 1, 0, 2] (qpR Try.f11) := by kernel_rfl
set_option maxRecDepth 100000 in
theorem qp_run3 : shR 4 (some (qpU Try.prog Try.f11)) (qp3 Try.prog Try.f11) = some
    [.back [.i 7 (.add (.iv 7) (.il 1)), .c 3 (.tb .set (.cv 3) (.md (.iv 7) (.il 2048)) (.tb (.cons .bool) (.bl false) trow (.il 0)))] [hsT (.cv 3) (.iv 7), .lt (.iv 7) (.iv 5)],
    .out 1 (.exit 2) [.not (hsT (.cv 3) (.iv 7)), .lt (.iv 7) (.iv 5)],
    .out 2 (.exit 2) [.not (.lt (.iv 7) (.iv 5))]] := by kernel_rfl
def qEnd (pc : List Tm) : List Sm := [.ret (.one (.c (.bool (.lt (.iv 8) (.add (.iv 7) (.il 1)))))) [quO 0 true (.cv 2) (.cv 3) (.iv 0) (.add (.iv 7) (.il 1)) (.iv 6) (.bl true)] (.eq (.iv 7) (.iv 6) :: pc), .ret (.one (.c (.bool (.lt (.iv 8) (.iv 7))))) [quO 0 true (.cv 2) (.cv 3) (.iv 0) (.iv 7) (.iv 6) (.bv 0)] (.not (.eq (.iv 7) (.iv 6)) :: pc)]
theorem qp_aft : aft (.exit 2) [1, 1, 1, 1, 1, 1, 0, 2] (bodyOf Try.f11) = aft (.exit 2) [1, 1, 0, 2] (qpR Try.f11) := by kernel_rfl
set_option maxRecDepth 100000 in
theorem qp_end1 : smR Try.prog Try.f11 4 (run Try.prog [] 10 400 4 (.code (aft (.exit 2) [1, 1, 0, 2] (qpR Try.f11))) (lfAt (qp3 Try.prog Try.f11) 1)) = some (qEnd [.not (hsT (.cv 3) (.iv 7)), .lt (.iv 7) (.iv 5)]) := by kernel_rfl
set_option maxRecDepth 100000 in
theorem qp_end2 : smR Try.prog Try.f11 4 (run Try.prog [] 10 400 4 (.code (aft (.exit 2) [1, 1, 0, 2] (qpR Try.f11))) (lfAt (qp3 Try.prog Try.f11) 2)) = some (qEnd [.not (.lt (.iv 7) (.iv 5))]) := by kernel_rfl
end Go.Proofs.Ytnjpoidpfcfbeaa
