/- Find of the program's table: runs. -/
import Derived.Test.YthjigajielhkfaaPr
namespace Go.Proofs.Ythjigajielhkfaa
open Go.RowKit Sy
set_option linter.unusedVariables false
set_option linter.unusedSimpArgs false

def fiP : List Nat := [1, 1, 0, 1, 2]
def fiA : List SV := [.one (.c (.ptr 0 0)), .one (.c (.int .i64 (.iv 20))), .one (.agg [.int .u32 (.iv 21), .int .i64 (.iv 22)]), .one (.agg [.int .u32 (.iv 23), .int .i64 (.iv 24)]), .one (.c (.int .u64 (.iv 26)))]
def fiBs : List Bd := [⟨tlen (.cv 0), 0, 4000⟩, i64B 20, u32B 21, i64B 22, u32B 23, i64B 24, ⟨.iv 26, 0, 18446744073709551615⟩]
def fiSt (T : TypeId) : Sy.St := ⟨[], [⟨0, T, [bdSl], false, none, .no⟩, bdTb], ⟨fiBs, []⟩, 50⟩
def fp0 (P : Program) (fn : Func) : Rs := run P [] 10 400 50 (.code (pre fiP (bodyOf fn))) (enterS fn fiA (fiSt 252))
def fpC (fn : Func) : Code := lpBody (Sy.sub fiP (bodyOf fn))
/-- At the head of the rounds over the three: the ith. -/
def fpT (P : Program) (fn : Func) (i : Int) : Sy.St := tplS (lfAt (fp0 P fn) 0) (fpC fn) [(30, .one (.c (.int .i64 (.il i))))] [] ⟨fiBs, []⟩ 60
def fpQ : List Nat := [1, 1, 0, 2, 1, 1, 0, 1, 2]
def fp1 (P : Program) (fn : Func) (i : Int) : Rs := run P [] 10 400 50 (.code (pre fpQ (fpC fn))) (fpT P fn i)
def fpS (P : Program) (fn : Func) (i : Int) : Sy.St := tabSlot (lfAt (fp1 P fn i) 0) 15 80 3 [.int .i64]
def fpTb : Bk := ⟨80, 3, [], true, none, .tab [.int .i64] (.cv 1)⟩
def fpPc : List Tm := [.le (.iv 0) (tlen (.cv 0)), .le (.iv 1) (tlen (.cv 1)), .le (tlen (.cv 1)) (.iv 1)]
def fpCx : Cx := ⟨⟨.iv 0, 0, 4000⟩ :: ⟨.iv 1, 0, 4000⟩ :: ⟨tlen (.cv 1), 0, 4000⟩ :: fiBs, fpPc⟩
def fpT2 (P : Program) (fn : Func) (i : Int) : Sy.St := tplS (fpS P fn i) (lpBody (Sy.sub fpQ (fpC fn))) [(39, .one (.c (.int .i64 (.iv 0)))), (15, .one (.c (.slt 80 1 (.il 0) (.iv 1) (.il 0))))] [fpTb] fpCx 90
def fp2 (P : Program) (fn : Func) (i : Int) : Rs := run P [] 10 400 50 (.code (lpBody (Sy.sub fpQ (fpC fn)))) (fpT2 P fn i)
def fp3 (P : Program) (fn : Func) (i : Int) : Rs := run P [] 10 400 50 (.code (aft (.exit 2) fpQ (fpC fn))) (lfAt (fp2 P fn i) 4)
def fp4 (P : Program) (fn : Func) : Rs := run P [] 10 400 50 (.code (fpC fn)) (fpT P fn 3)
def fcP : Tm := .eq (.tb (.get (.int .i64) 0) (.cv 0) (.iv 0) (.il 0)) (.iv 20)
def fcL (la : Tm) : Tm := .and (.eq (.tb (.get (.int .u32) 1) (.cv 0) (.iv 0) (.il 0)) la) (.eq (.tb (.get (.int .i64) 2) (.cv 0) (.iv 0) (.il 0)) (.iv 22))
def fcR (ra rp : Tm) : Tm := .and (.eq (.tb (.get (.int .u32) 3) (.cv 0) (.iv 0) (.il 0)) ra) (.eq (.tb (.get (.int .i64) 4) (.cv 0) (.iv 0) (.il 0)) rp)
def fcRow : Tm := .tb (.cons (.int .i64)) (.tb (.get (.int .i64) 6) (.cv 0) (.iv 0) (.il 0)) trow (.il 0)
def fpN : List Tm := .lt (.iv 0) (tlen (.cv 0)) :: fpPc
def fpL (la ra rp : Tm) : List Sh := [.back [.i 1 (.add (tlen (.cv 1)) (.il 1)), .i 0 (.add (.iv 0) (.il 1)), .c 1 (.tb .app (.cv 1) fcRow (.il 0))] (fcR ra rp :: fcL la :: fcP :: fpN),
  .back [.i 0 (.add (.iv 0) (.il 1))] (.not (fcR ra rp) :: fcL la :: fcP :: fpN),
  .back [.i 0 (.add (.iv 0) (.il 1))] (.not (fcL la) :: fcP :: fpN),
  .back [.i 0 (.add (.iv 0) (.il 1))] (.not fcP :: fpN),
  .out 4 (.exit 2) (.not (.lt (.iv 0) (tlen (.cv 0))) :: fpPc)]
def fpE : List Tm := .not (.lt (.iv 0) (tlen (.cv 0))) :: fpPc
def fpL3 : List Sh := [.must (.lt (.md (.iv 26) (.iv 1)) (.iv 1)) (.lt (.il 0) (.iv 1) :: fpE),
  .must (.lt (.md (.iv 26) (.iv 1)) (tlen (.cv 1))) (.lt (.md (.iv 26) (.iv 1)) (.iv 1) :: .lt (.il 0) (.iv 1) :: fpE),
  .out 2 .ret (.lt (.md (.iv 26) (.iv 1)) (tlen (.cv 1)) :: .lt (.md (.iv 26) (.iv 1)) (.iv 1) :: .lt (.il 0) (.iv 1) :: fpE),
  .out 3 .normal (.not (.lt (.il 0) (.iv 1)) :: fpE)]
def fpV : SV := .tup [.c (.int .i64 (.tb (.get (.int .i64) 0) (.cv 1) (.md (.iv 26) (.iv 1)) (.il 0))), .c (.bool (.bl true))]
structure FpRound (P : Program) (fn : Func) (i : Int) (la ra rp : Tm) : Prop where
  run1 : shR 50 none (fp1 P fn i) = some [.out 0 .normal []]
  free : ((lfAt (fp1 P fn i) 0).free 80, (lfAt (fp1 P fn i) 0).free 81) = (true, true)
  mtch : (matchS 50 (fpT2 P fn i) (fpS P fn i)).map noU = some [.i 1 (.il 0), .i 0 (.il 0), .c 1 tn]
  run2 : shR 50 (some (fpT2 P fn i)) (fp2 P fn i) = some (fpL la ra rp)
  run3 : shR 50 none (fp3 P fn i) = some fpL3
  ret3 : retS P (lfAt (fp3 P fn i) 2) fn.results.toList = some fpV
  mt3 : (matchS 50 (fpT P fn (i + 1)) (lfAt (fp3 P fn i) 3)).map noU = some []
set_option maxRecDepth 100000 in
theorem fp_code0 : FpRound Try.prog Try.f116 0 (.iv 21) (.iv 23) (.iv 24) where
  run1 := by kernel_rfl
  free := by kernel_rfl
  mtch := by kernel_rfl
  run2 := by kernel_rfl
  run3 := by kernel_rfl
  ret3 := by kernel_rfl
  mt3 := by kernel_rfl
set_option maxRecDepth 100000 in
theorem fp_code1 : FpRound Try.prog Try.f116 1 (.iv 21) (.il 0) (.il 0) where
  run1 := by kernel_rfl
  free := by kernel_rfl
  mtch := by kernel_rfl
  run2 := by kernel_rfl
  run3 := by kernel_rfl
  ret3 := by kernel_rfl
  mt3 := by kernel_rfl
set_option maxRecDepth 100000 in
theorem fp_code2 : FpRound Try.prog Try.f116 2 (.il 0) (.il 0) (.il 0) where
  run1 := by kernel_rfl
  free := by kernel_rfl
  mtch := by kernel_rfl
  run2 := by kernel_rfl
  run3 := by kernel_rfl
  ret3 := by kernel_rfl
  mt3 := by kernel_rfl
set_option maxRecDepth 100000 in
theorem fp_run0 : shR 50 none (fp0 Try.prog Try.f116) = some [.out 0 .normal []] := by kernel_rfl
set_option maxRecDepth 100000 in
theorem fp_match : (matchS 50 (fpT Try.prog Try.f116 0) (lfAt (fp0 Try.prog Try.f116) 0)).map noU = some [] := by kernel_rfl
set_option maxRecDepth 100000 in
theorem fp_loop : Code.loop (fpC Try.f116) = Sy.sub fiP (bodyOf Try.f116) := by kernel_rfl
set_option maxRecDepth 100000 in
theorem fp_loop2 : Code.loop (lpBody (Sy.sub fpQ (fpC Try.f116))) = Sy.sub fpQ (fpC Try.f116) := by kernel_rfl
set_option maxRecDepth 100000 in
theorem fp_run4 : shR 50 none (fp4 Try.prog Try.f116) = some [.out 0 (.exit 0) []] := by kernel_rfl
set_option maxRecDepth 100000 in
theorem fp_fin : finB Try.prog Try.f116 50 (.tup [.c (.int .i64 (.il 0)), .c (.bool (.bl false))]) (run Try.prog [] 10 400 50 (.code (aft (.exit 0) fiP (bodyOf Try.f116))) (lfAt (fp4 Try.prog Try.f116) 0)) = true := by kernel_rfl
end Go.Proofs.Ythjigajielhkfaa
