/- A part of the proof that a connection answers as the document says: Ch2. -/
import Derived.Test.YtnlcpcmdlcakgaaGreatKh37
set_option maxRecDepth 100000
set_option maxHeartbeats 4000000
set_option linter.unusedVariables false
set_option linter.unusedSimpArgs false
set_option linter.unusedSectionVars false
open Go.Proofs.Tryz
namespace Go.Proofs.YtnlcpcmdlcakgaaGreat
open Go.RowKit Sy
def gt1(k:Kd)(n:Nat)(t:Nat):Tm:= .tb (.get k n) (.cv t) j9 i9
def ei(k:IntKind)(n:Nat):Tm:= .eq (gt1 (.int k) n 0) (gt1 (.int k) n 1)
def eb(n:Nat):Tm:= .bq (gt1 .bool n 0) (gt1 .bool n 1)
def eN8:Tm:= .and (.and (ei .u32 0) (ei .i64 1)) (.and (.and (ei .u32 2) (ei .i64 3)) (.and (ei .u32 4) (.and (ei .u32 5) (.and (eb 6) (.and (eb 7) (.and (eb 8) (.and (eb 9) (.and (ei .i64 10) (.and (ei .i64 11) (.seq (gt1 .str 12 0) (gt1 .str 12 1)))))))))))
theorem ea1:EqRuns prog 8 f8 38 aH7 eN8 where
 row:=fun J=>by
  show((_&&_)&&((_&&_)&&(_&&(_&&(_&&(_&&(_&&(_&&(_&&(_&&_))))))))))=(_&&(_&&(_&&(_&&(_&&(_&&(_&&(_&&(_&&(_&&(_&&(_&&_))))))))))));simp only[Bool.and_assoc];rfl
 hf:=func8
 body:=by kernel_rfl
 run0:=by kernel_rfl
 ret0:=by kernel_rfl
 match_:=by kernel_rfl
 loop:=by kernel_rfl
 run1:=by kernel_rfl
 cx1:=by kernel_rfl
 ret1:=by kernel_rfl
 fin:=by kernel_rfl
def sI(n:Nat):V1:= .c (.int .i64 (.iv n))
def gC:List C:=[.int .u32 (.iv 116), .int .i64 (.iv 117), .int .u32 (.iv 118), .int .i64 (.iv 119), .int .u32 (.iv 120), .int .u32 (.iv 121), .bool (.bv 122), .bool (.bv 123), .bool (.bv 124), .bool (.bv 125), .int .i64 (.iv 126), .int .i64 (.iv 127), .str (.sv 128)]
def ksp(f1 f2:FuncId)(args:List SV)(t:Tm)(v:Nat->SV)(has has':Bool):List Sy.Spec:=
 [eG3,dF9 8 38 aH7,c07 ⟨f1,args,0,3,has,has',t,v⟩,c10 ⟨f2,args,0,3,has,has',t,v⟩,c07 ⟨36,[],3,3,has',has',tn,fun _=> .one (sI 12)⟩,c10 ⟨37,[],3,3,has',has',tn,fun _=> .one (sI 12)⟩]
def kIn:Bool->Bool->List Sy.Spec:=ksp 23 24 [.one (.agg gC)] tn fun _=> .one (sI 10)
def bh0:Bool->Bool->List Sy.Spec:=ksp 9 10 [] s7 fun n=> .one (.c (.slt n 13 i9 (L7 s7) i9))
def dM7:Bool->Bool->List Sy.Spec:=ksp 25 26 [.one (sI 101)] tn fun _=> .one (sI 10)
def ci0:Bool->Bool->List Sy.Spec:=ksp 27 28 [.one (.c (.str (.sv 104)))] tn fun _=> .tup [sI 11,sI 10]
def dN0:Bool->Bool->List Sy.Spec:=ksp 29 30 [.one (sI 101)] tn fun _=> .tup [.c (.str (.sv 10)), .c (.bool (.bv 10)),sI 10]
def ci1:Bool->Bool->List Sy.Spec:=ksp 31 32 [] tn fun _=> .one (sI 10)
def ci6:Bool->Bool->List Sy.Spec:=ksp 33 34 [] tn fun _=> .one (sI 10)
def ah2(x y:Int)(pc:List Tm):Cx:=⟨[⟨.md (.iv 100) (.il 9),x,y⟩,⟨.iv 100,-9223372036854775808,9223372036854775807⟩,⟨L7 s7,0,1759218604000⟩],pc⟩
def stR(P:Program)(fn:Func)(sp:Bool->Bool->List Sy.Spec)(cx:Cx)(has has':Bool):Rs:=R6 P (sp has has') 10 400 40 (.code (y7 fn)) (L3 fn [.one (.c (.ptr 0 0)), .one (.c (.ptr 20 0)), .one (.agg xC)] ⟨[],cM8 has,cx,40⟩)
theorem dt5(has has':Bool)(h:has=true->has'=true):ae9 prog f7 has' (stR prog f7 kIn (ah2 0 0 []) has has')=true:=by
 cases has<;>cases has'<;>first|kernel_rfl|exact absurd (h rfl) bA
theorem dt4(has has':Bool)(h:has=true->has'=true):ae9 prog f7 has' (stR prog f7 kIn (ah2 1 1 []) has has')=true:=by
 cases has<;>cases has'<;>first|kernel_rfl|exact absurd (h rfl) bA
theorem dt3(has has':Bool)(h:has=true->has'=true):ae9 prog f7 has' (stR prog f7 kIn (ah2 2 2 []) has has')=true:=by
 cases has<;>cases has'<;>first|kernel_rfl|exact absurd (h rfl) bA
theorem eN7(k:Int)(hk:k=0\/k=1\/k=2)(has has':Bool)(h:has=true->has'=true):ae9 prog f7 has' (stR prog f7 kIn (ah2 k k []) has has')=true:=by
 rcases hk with rfl|rfl|rfl
 .exact dt5 has has' h
 .exact dt4 has has' h
 .exact dt3 has has' h
theorem dV3(has:Bool):ae9 prog f7 has (stR prog f7 bh0 (ah2 3 3 []) has has)=true:=by cases has<;>kernel_rfl
theorem dV2(has:Bool):ae9 prog f7 has (stR prog f7 bh0 (ah2 4 4 []) has has)=true:=by cases has<;>kernel_rfl
theorem dt2(k:Int)(hk:k=3\/k=4)(has:Bool):ae9 prog f7 has (stR prog f7 bh0 (ah2 k k []) has has)=true:=by
 rcases hk with rfl|rfl
 .exact dV3 has
 .exact dV2 has
theorem dV0(has:Bool):ae9 prog f7 has (stR prog f7 dM7 (ah2 5 5 []) has has)=true:=by cases has<;>kernel_rfl
theorem cu6(has:Bool):ae9 prog f7 has (stR prog f7 ci0 (ah2 6 6 []) has has)=true:=by cases has<;>kernel_rfl
theorem dV1(has:Bool):ae9 prog f7 has (stR prog f7 dN0 (ah2 7 7 []) has has)=true:=by cases has<;>kernel_rfl
theorem cu7(has:Bool):ae9 prog f7 has (stR prog f7 ci1 (ah2 8 8 [.bv 103]) has has)=true:=by cases has<;>kernel_rfl
theorem cu8(has:Bool):ae9 prog f7 has (stR prog f7 ci6 (ah2 8 8 [.not (.bv 103)]) has has)=true:=by cases has<;>kernel_rfl
end Go.Proofs.YtnlcpcmdlcakgaaGreat
