/- Fragments: the document's In: what the runs give. -/
import Derived.Test.YtnmfmjlpfhdgeaaFragF
namespace Go.Proofs.Ytnmfmjlpfhdgeaa
open Go.RowKit Sy
set_option linter.unusedVariables false
set_option linter.unusedSimpArgs false

/-! The runs. -/
set_option maxRecDepth 100000 in
theorem rf_m1 : (matchS 46 rT1 (lfAt (rR0 Try.prog Try.f9 ⟨rBs, rc1⟩) 0)).map noU = some [.i 40 (.il 0)] := by kernel_rfl
set_option maxRecDepth 100000 in
theorem rf_m2 : (matchS 46 rT1 (lfAt (rR0 Try.prog Try.f9 ⟨rBs, pc2⟩) 0)).map noU = some [.i 40 (.il 0)] := by kernel_rfl
set_option maxRecDepth 100000 in
theorem rf_run01 : shR 46 none (rR0 Try.prog Try.f9 ⟨rBs, rc1⟩) = some [.out 0 .normal rc1] := by kernel_rfl
set_option maxRecDepth 100000 in
theorem rf_run02 : shR 46 none (rR0 Try.prog Try.f9 ⟨rBs, pc2⟩) = some [.out 0 .normal pc2] := by kernel_rfl
def qF : Tm := .mul (.il 8) (.tb (.get (.int .i64) 7) (.cv 4) (.iv 45) (.il 0))
def qB : Tm := .tb (.get .str 8) (.cv 4) (.iv 45) (.il 0)
def qM : Tm := .tb (.get .bool 6) (.cv 4) (.iv 45) (.il 0)
def qT : Tm := .add qF (.len qB)
def n45 : As := .i 45 (.add (.iv 45) (.il 1))
def qIn : List Tm := [.lt (.iv 45) (tlen (.cv 4)), .le (.iv 45) (tlen (.cv 4))]
def qEnd : List Tm := [.not (.lt (.iv 45) (tlen (.cv 4))), .le (.iv 45) (tlen (.cv 4))]
def qOut : List As := [.i 70 (.tb (.get (.int .u32) 0) (.cv 4) (.iv 45) (.il 0)), .i 71 (.tb (.get (.int .u32) 1) (.cv 4) (.iv 45) (.il 0)), .i 72 (.tb (.get (.int .i64) 2) (.cv 4) (.iv 45) (.il 0)), .i 73 (.tb (.get (.int .i64) 3) (.cv 4) (.iv 45) (.il 0)), .i 74 (.tb (.get (.int .i64) 4) (.cv 4) (.iv 45) (.il 0)), .b 75 (.tb (.get .bool 5) (.cv 4) (.iv 45) (.il 0)), .b 76 (.tb (.get .bool 6) (.cv 4) (.iv 45) (.il 0)), .i 77 (.tb (.get (.int .i64) 7) (.cv 4) (.iv 45) (.il 0)), .s 78 qB]
def s61 : Tm := .len (.sv 61)
def qGrow : List As := [.s 61 (.app (.sv 61) (.cut qB (.sub s61 qF) (.len qB))), .b 62 (.bl true), n45]
def qMust : Tm := .le (.sub s61 qF) (.len qB)
set_option maxRecDepth 100000 in
theorem rf_run1F : shR 94 (some rT1) (rR1F Try.prog Try.f9) = some [.back [.i 40 (.add (.iv 40) (.il 1))] [.not (nmE 4 .i64 24), nmE 2 .i64 22, nmE 1 .u32 21, nmE 0 .u32 20, .lt (.iv 40) (tlen (.cv 0))],
  .out 1 (.exit 0) [nmE 4 .i64 24, nmE 2 .i64 22, nmE 1 .u32 21, nmE 0 .u32 20, .lt (.iv 40) (tlen (.cv 0))],
  .back [.i 40 (.add (.iv 40) (.il 1))] [.not (nmE 2 .i64 22), nmE 1 .u32 21, nmE 0 .u32 20, .lt (.iv 40) (tlen (.cv 0))],
  .back [.i 40 (.add (.iv 40) (.il 1))] [.not (nmE 1 .u32 21), nmE 0 .u32 20, .lt (.iv 40) (tlen (.cv 0))],
  .back [.i 40 (.add (.iv 40) (.il 1))] [.not (nmE 0 .u32 20), .lt (.iv 40) (tlen (.cv 0))]] := by kernel_rfl
set_option maxRecDepth 100000 in
theorem rf_m1F : (matchS 46 { rT1 with cx := ⟨[], []⟩ } (lfAt (rR1F Try.prog Try.f9) 1)).map noU = some [] := by kernel_rfl
set_option maxRecDepth 100000 in
theorem rf_run1E : shR 46 none (rR1E Try.prog Try.f9) = some [.out 0 (.exit 0) cx1E.pc] := by kernel_rfl
set_option maxRecDepth 100000 in
theorem rf_m1E : (matchS 46 { rT1 with cx := ⟨[], []⟩ } (lfAt (rR1E Try.prog Try.f9) 0)).map noU = some [] := by kernel_rfl
set_option maxRecDepth 100000 in
theorem rf_run7A : shR 46 none (rR7 Try.prog Try.f9 cx7A) = some [.out 0 .normal cx7A.pc] := by kernel_rfl
set_option maxRecDepth 100000 in
theorem rf_m7A : (matchS 46 { rT8 (.iv 41) with cx := ⟨[], []⟩ } (lfAt (rR7 Try.prog Try.f9 cx7A) 0)).map noU = some [.i 41 (tlen (.cv 0))] := by kernel_rfl
set_option maxRecDepth 100000 in
theorem rf_run7B : shR 46 none (rR7 Try.prog Try.f9 cx7B) = some [.out 0 .normal cx7B.pc] := by kernel_rfl
set_option maxRecDepth 100000 in
theorem rf_m7B : (matchS 46 { rT8 (.iv 41) with cx := ⟨[], []⟩ } (lfAt (rR7 Try.prog Try.f9 cx7B) 0)).map noU = some [.i 41 (.add (tlen (.cv 0)) (.il 1)), .c 0 (.tb .app (.cv 0) (.tb (.cons .sls) (.tb .nil (.il 0) (.il 0) (.il 0)) (.tb (.cons (.int .i64)) (.il 0) (.tb .row (.il 0) (.il 0) (.il 0)) (.il 0)) (.il 0)) (.il 0))] := by kernel_rfl
set_option maxRecDepth 100000 in
theorem rf_run7C : shR 46 none (rR7 Try.prog Try.f9 cx7C) = some [.out 0 .ret []] := by kernel_rfl
set_option maxRecDepth 100000 in
theorem rf_ret7C : retsB Try.prog Try.f9 (rR7 Try.prog Try.f9 cx7C) (vIn zC false 9) [0] = true := by kernel_rfl
set_option maxRecDepth 100000 in
theorem rf_run9 : shR 134 none (rR9 Try.prog Try.f9) = some [.out 0 .normal [.lt (.iv 40) (tlen (.cv 0))]] := by kernel_rfl
set_option maxRecDepth 100000 in
theorem rf_m9 : (matchS 134 rT9 (lfAt (rR9 Try.prog Try.f9) 0)).map noU = some [.i 41 (.il 0)] := by kernel_rfl
set_option maxRecDepth 100000 in
theorem rf_run9b : shR 134 (some rT9) (rR9b Try.prog Try.f9) = some [.out 0 .ret (fgT :: .lt (.iv 41) (tlen (.cv 3)) :: cx9.pc), .back [.i 41 (.add (.iv 41) (.il 1))] (.not fgT :: .lt (.iv 41) (tlen (.cv 3)) :: cx9.pc), .out 2 (.exit 2) (.not (.lt (.iv 41) (tlen (.cv 3))) :: cx9.pc)] := by kernel_rfl
set_option maxRecDepth 100000 in
theorem rf_ret9b : retsB Try.prog Try.f9 (rR9b Try.prog Try.f9) (vIn zC false 4) [0] = true := by kernel_rfl
def drT (c ct : Tm) : Tm := .tb .app (.tb .cut c (.il 0) (.iv 40)) ct (.il 0)
def drN (c : Tm) : Tm := .add (.iv 40) (.sub (tlen c) (.add (.iv 40) (.il 1)))
def hasBk (s : Sy.St) (b : Bk) : Bool := match find b.l s.hp with | some x => sameBk x b | none => false
set_option maxRecDepth 100000 in
theorem rf_hp9b : (hasBk (lfAt (rR9b Try.prog Try.f9) 0) (uB 182 (drN (.cv 0))) && hasBk (lfAt (rR9b Try.prog Try.f9) 0) (loB 182 (drT (.cv 0) cutA))) = true := by kernel_rfl
set_option maxRecDepth 100000 in
theorem rf_m9b : (matchS 134 { rT10 with hp := rT10.hp.drop 1, cx := ⟨[], []⟩ } (lfAt (rR9b Try.prog Try.f9) 2)).map noU = some [] := by kernel_rfl
set_option maxRecDepth 100000 in
theorem rf_run10 : shR 154 none (rR10 Try.prog Try.f9) = some [.out 0 .normal [.lt (.iv 40) (tlen (.cv 0))]] := by kernel_rfl
set_option maxRecDepth 100000 in
theorem rf_m10 : (matchS 154 { rT26 (sl12 (.iv 42)) with cx := ⟨[], []⟩ } (lfAt (rR10 Try.prog Try.f9) 0)).map noU = some [.i 42 (.add (tlen (.cv 3)) (.il 1)), .c 4 (.tb .app (.cv 3) (.tb (.cons (.int .u32)) (.iv 20) (.tb (.cons (.int .u32)) (.iv 21) (.tb (.cons (.int .i64)) (.iv 22) (.tb (.cons (.int .i64)) (.iv 23) (.tb (.cons (.int .i64)) (.iv 24) (.tb (.cons .bool) (.bv 25) (.tb (.cons .bool) (.bv 26) (.tb (.cons (.int .i64)) (.iv 27) (.tb (.cons .str) (.sv 28) (.tb .row (.il 0) (.il 0) (.il 0)) (.il 0)) (.il 0)) (.il 0)) (.il 0)) (.il 0)) (.il 0)) (.il 0)) (.il 0)) (.il 0)) (.il 0))] := by kernel_rfl
set_option maxRecDepth 100000 in
theorem rf_run26 : shR 184 none (rR26 Try.prog Try.f9) = some [.out 0 .normal [.lt (.iv 40) (tlen (.cv 0))]] := by kernel_rfl
def vl12 : SV := .one (.c (.vls vlT))
set_option maxRecDepth 100000 in
theorem rf_m26 : (matchS 184 ⟨tmL 228 ((12, vl12) :: vs8), lpB (.cv 4) :: bx4 ++ [uB 108 (tlen (.cv 0)), loB 108 (.cv 5)], ⟨[], []⟩, 200⟩ (lfAt (rR26 Try.prog Try.f9) 0)).map noU = some [.c 5 (.tb .set (.cv 0) (.iv 40) (.tb (.cons .sls) vlT (.tb (.cons (.int .i64)) (.tb (.get (.int .i64) 1) (.cv 0) (.iv 40) (.il 0)) (.tb .row (.il 0) (.il 0) (.il 0)) (.il 0)) (.il 0)))] := by kernel_rfl
set_option maxRecDepth 100000 in
theorem rf_run27 : shR 184 none (rR27 Try.prog Try.f9) = some [.out 0 .normal []] := by kernel_rfl
set_option maxRecDepth 100000 in
theorem rf_m27 : (matchS 184 rT28 (lfAt (rR27 Try.prog Try.f9) 0)).map noU = some [.i 43 (.il (-1)), .i 45 (.il 0)] := by kernel_rfl
set_option maxRecDepth 100000 in
theorem rf_run28 : shR 184 (some rT28) (rR28 Try.prog Try.f9) = some [.back [.i 43 qT, n45] (.not qM :: qIn), .back [n45] (qM :: qIn), .out 2 (.exit 4) qEnd] := by kernel_rfl
set_option maxRecDepth 100000 in
theorem rf_m28 : (matchS 184 { rT30 with cx := ⟨[], []⟩ } (lfAt (rR28 Try.prog Try.f9) 2)).map noU = some [] := by kernel_rfl
set_option maxRecDepth 100000 in
theorem rf_run30 : shR 184 none (rR30 Try.prog Try.f9) = some [.out 0 .normal []] := by kernel_rfl
set_option maxRecDepth 100000 in
theorem rf_m30 : (matchS 184 rTO (lfAt (rR30 Try.prog Try.f9) 0)).map noU = some [.s 61 (.sl []), .b 62 (.bl true), .i 70 (.il 0), .i 71 (.il 0), .i 72 (.il 0), .i 73 (.il 0), .i 74 (.il 0), .b 75 (.bl false), .b 76 (.bl false), .i 77 (.il 0), .s 78 (.sl [])] := by kernel_rfl
set_option maxRecDepth 100000 in
theorem rf_runO : shR 184 (some rTI) (rRO Try.prog Try.f9) = some [.back [.b 62 (.bl false), .i 45 (.il 0)] [.lt s61 (.iv 43), .bv 62], .out 1 (.exit 6) [.not (.lt s61 (.iv 43)), .bv 62], .out 2 (.exit 6) [.not (.bv 62)]] := by kernel_rfl
set_option maxRecDepth 100000 in
theorem rf_mO1 : (matchS 184 { rTO with cx := ⟨[], []⟩ } (lfAt (rRO Try.prog Try.f9) 1)).map noU = some [] := by kernel_rfl
set_option maxRecDepth 100000 in
theorem rf_mO2 : (matchS 184 { rTO with cx := ⟨[], []⟩ } (lfAt (rRO Try.prog Try.f9) 2)).map noU = some [] := by kernel_rfl
set_option maxRecDepth 100000 in
theorem rf_runI : shR 184 (some rTI) (rRI Try.prog Try.f9) = some [.back (qGrow ++ qOut) (.lt s61 qT :: .eq s61 (.il 0) :: .eq qF (.il 0) :: qIn),
  .back (n45 :: qOut) (.not (.lt s61 qT) :: .eq s61 (.il 0) :: .eq qF (.il 0) :: qIn),
  .must qMust (.lt s61 qT :: .not (.eq s61 (.il 0)) :: .eq qF (.il 0) :: qIn),
  .back qGrow (qMust :: .lt s61 qT :: .not (.eq s61 (.il 0)) :: .eq qF (.il 0) :: qIn),
  .back [n45] (.not (.lt s61 qT) :: .not (.eq s61 (.il 0)) :: .eq qF (.il 0) :: qIn),
  .must qMust (.lt s61 qT :: .le qF s61 :: .not (.eq qF (.il 0)) :: qIn),
  .back qGrow (qMust :: .lt s61 qT :: .le qF s61 :: .not (.eq qF (.il 0)) :: qIn),
  .back [n45] (.not (.lt s61 qT) :: .le qF s61 :: .not (.eq qF (.il 0)) :: qIn),
  .back [n45] (.not (.le qF s61) :: .not (.eq qF (.il 0)) :: qIn),
  .out 9 (.exit 8) qEnd] := by kernel_rfl
set_option maxRecDepth 100000 in
theorem rf_mI : (matchS 184 { rTO with cx := ⟨[], []⟩ } (lfAt (rRI Try.prog Try.f9) 9)).map noU = some [] := by kernel_rfl
def ouC2 : List C := [.int .u32 (.iv 70), .int .u32 (.iv 71), .int .i64 (.iv 72), .int .i64 (.iv 73), .int .i64 (.iv 74), .bool (.bv 75), .bool (.bl false), .int .i64 (.il 0), .str (.sv 61)]
set_option maxRecDepth 100000 in
theorem rf_run48 : shR 184 none (rR48 Try.prog Try.f9) = some [.out 0 .ret (.lt s61 (.iv 43) :: .not (.lt (.iv 43) (.il 0)) :: pcE), .out 1 .ret (.not (.lt s61 (.iv 43)) :: .not (.lt (.iv 43) (.il 0)) :: pcE), .out 2 .ret (.lt (.iv 43) (.il 0) :: pcE)] := by kernel_rfl
set_option maxRecDepth 100000 in
theorem rf_ret48a : retsB Try.prog Try.f9 (rR48 Try.prog Try.f9) (vIn zC false 0) [0, 2] = true := by kernel_rfl
set_option maxRecDepth 100000 in
theorem rf_ret48b : retsB Try.prog Try.f9 (rR48 Try.prog Try.f9) (vIn ouC2 true 0) [1] = true := by kernel_rfl
set_option maxRecDepth 100000 in
theorem rf_hp48 : ([0, 2].all fun k => hasBk (lfAt (rR48 Try.prog Try.f9) k) (uB 108 (tlen (.cv 5))) && (hasBk (lfAt (rR48 Try.prog Try.f9) k) (loB 108 (.cv 5)) && hasBk (lfAt (rR48 Try.prog Try.f9) k) (lpB (.cv 4)))) = true := by kernel_rfl
set_option maxRecDepth 100000 in
theorem rf_hp48b : (hasBk (lfAt (rR48 Try.prog Try.f9) 1) (uB 250 (drN (.cv 5))) && hasBk (lfAt (rR48 Try.prog Try.f9) 1) (loB 250 (drT (.cv 5) cutB))) = true := by kernel_rfl
end Go.Proofs.Ytnmfmjlpfhdgeaa
