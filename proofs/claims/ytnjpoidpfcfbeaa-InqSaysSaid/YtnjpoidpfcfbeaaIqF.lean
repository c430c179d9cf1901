/- InqSays: runs with letters. -/
import Derived.Test.YtnjpoidpfcfbeaaIqE
namespace Go.Proofs.Ytnjpoidpfcfbeaa
open Go.RowKit Sy
set_option linter.unusedVariables false
set_option linter.unusedSimpArgs false

def liP : List Nat := [1, 1, 1, 0]
def liPre (P : Program) (fn : Func) : Rs := run P [newQSp] 10 400 0 (.code (pre liP (bodyOf fn))) (enterS fn [.one (.c (.opq 0))] ⟨[], [], ⟨[], []⟩, 0⟩)
def liI (P : Program) (fn : Func) : Sy.St := saysIn (lfAt (liPre P fn) 0) 11 12 13
def liBs : List Bd := [⟨.iv 0, 0, 140737488355328⟩, ⟨.iv 1, 0, 140737488355328⟩, KB (.iv 2), B61 (.iv 3), ⟨.iv 4, -1, 1153202979583557632⟩, KB (.iv 5), KB (.iv 6), KB (kmT (.cv 2))]
def liT (P : Program) (fn : Func) : Sy.St := tplS (liI P fn) (saysB fn liP) [(13, .one (.c (.int .i64 (.iv 0))))] [quO 0 true (.cv 0) (.cv 1) (.iv 2) (.iv 3) (.iv 4) (.bv 0), inO 4 2 true (.iv 5) (.iv 6), inT 2 true (.cv 2)] ⟨liBs, []⟩ 70
def liX (P : Program) (fn : Func) : Sy.St := saysX P fn liP (liT P fn) 0 200 15 16 6
def xBs (a b : Int) : List Bd := [⟨.md (.iv 100) (.il 4), a, b⟩, I64 (.iv 100), I64 (.iv 101), ⟨.len (.sv 104), 0, 140737488355328⟩]
def liSp : List Sy.Spec := [ofSp, putQSp, putRSp, readQSp, readRSp, nextSp, overSp, bySp]
def liOp (P : Program) (fn : Func) (a b : Int) : Rs := run P liSp 10 400 0 (.code (aft .normal rowP (saysB fn liP))) { liX P fn with cx := ⟨xBs a b ++ liBs, []⟩ }
def lvS (e0 n nr o orr gp rp rr : Tm) (bk : List As) (base : List Tm) : List Sh :=
  [.out 2 .ret (.not e0 :: base),
  .out 3 .ret (.not (.bq o orr) :: .eq (.sub (.add n (.il (-1))) rp) (.sub gp rr) :: .eq (.sub (.il 2048) (.sub (.add n (.il (-1))) rp)) (.sub (.il 2048) (.sub gp rr)) :: o :: .eq n nr :: e0 :: base),
  .back bk (.bq o orr :: .eq (.sub (.add n (.il (-1))) rp) (.sub gp rr) :: .eq (.sub (.il 2048) (.sub (.add n (.il (-1))) rp)) (.sub (.il 2048) (.sub gp rr)) :: o :: .eq n nr :: e0 :: base),
  .out 5 .ret (.not (.eq (.sub (.add n (.il (-1))) rp) (.sub gp rr)) :: .eq (.sub (.il 2048) (.sub (.add n (.il (-1))) rp)) (.sub (.il 2048) (.sub gp rr)) :: o :: .eq n nr :: e0 :: base),
  .out 6 .ret (.not (.eq (.sub (.il 2048) (.sub (.add n (.il (-1))) rp)) (.sub (.il 2048) (.sub gp rr))) :: o :: .eq n nr :: e0 :: base),
  .out 7 .ret (.not (.bq o orr) :: .eq (.sub n rp) (.sub gp rr) :: .eq (.sub (.il 2048) (.sub n rp)) (.sub (.il 2048) (.sub gp rr)) :: .not o :: .eq n nr :: e0 :: base),
  .back bk (.bq o orr :: .eq (.sub n rp) (.sub gp rr) :: .eq (.sub (.il 2048) (.sub n rp)) (.sub (.il 2048) (.sub gp rr)) :: .not o :: .eq n nr :: e0 :: base),
  .out 9 .ret (.not (.eq (.sub n rp) (.sub gp rr)) :: .eq (.sub (.il 2048) (.sub n rp)) (.sub (.il 2048) (.sub gp rr)) :: .not o :: .eq n nr :: e0 :: base),
  .out 10 .ret (.not (.eq (.sub (.il 2048) (.sub n rp)) (.sub (.il 2048) (.sub gp rr))) :: .not o :: .eq n nr :: e0 :: base),
  .out 11 .ret (.not (.eq n nr) :: e0 :: base)]
def zP : Tm := zPut (.iv 2) (.iv 3) (.iv 4) (.bv 0) (.iv 101) (.sv 104) (.bv 103)
def yP : Tm := yPut (.iv 5) (.iv 6) (.iv 101) (.sv 104) (.bv 103)
def zR : Tm := zRead (.iv 2) (.iv 3) (.iv 4) (.bv 0) (.iv 101)
def yR : Tm := yRead (.iv 5) (.iv 101)
def pA (n : Nat) : Tm := .ap n (.cv 0) (.cv 1) zP
def rA (n : Nat) : Tm := .ap n (.cv 2) yP (.il 0)
def pD (n : Nat) : Tm := .ap n (.cv 0) (.cv 1) zR
def rD (n : Nat) : Tm := .ap n (.cv 2) yR (.il 0)
def bkP : List As := [.i 0 (.add (.iv 0) (.il 1)), .i 6 (rA 51), .c 2 (rA 50), .i 3 (pA 44), .i 4 (pA 45), .b 0 (pA 46), .c 0 (pA 42), .c 1 (pA 43)]
def bkR : List As := [.i 0 (.add (.iv 0) (.il 1)), .i 5 (rD 58), .i 2 (pD 59)]
def e3T : Tm := endT (.iv 3) (.bv 0)
def mP1 : Tm := .le (.iv 2) (.iv 3)
def mP2 : Tm := .or (.le (.iv 3) (.add (.iv 2) (.il 2048))) (.bv 0)
def mR1 : Tm := .le (.iv 2) e3T
def mR2 : Tm := .le e3T (.add (.iv 2) (.il 2048))
set_option maxRecDepth 100000 in
theorem li_pre : shR 0 none (liPre Try.prog Try.f3) = some [.out 0 .normal []] := by kernel_rfl
set_option maxRecDepth 100000 in
theorem li_code : SaysCode Try.prog Try.f3 liP (liT Try.prog Try.f3) 0 200 0 11 12 13 15 16 6 where
  rg4 := ⟨Sy.opAt (Sy.sub (liP ++ [0]) (bodyOf Try.f3)) 0, Sy.opAt (Sy.sub (liP ++ [0]) (bodyOf Try.f3)) 1, Sy.opAt (Sy.sub (liP ++ [0]) (bodyOf Try.f3)) 2, by kernel_rfl, ⟨by kernel_rfl, by kernel_rfl, by kernel_rfl⟩, ⟨by kernel_rfl, by kernel_rfl, by kernel_rfl⟩, ⟨by kernel_rfl, by kernel_rfl, by kernel_rfl⟩⟩
  at_ := by kernel_rfl
  hd := by kernel_rfl
  row := ⟨Sy.opAt (Sy.sub rowP (saysB Try.f3 liP)) 0, Sy.opAt (Sy.sub rowP (saysB Try.f3 liP)) 1, Sy.opAt (Sy.sub rowP (saysB Try.f3 liP)) 2, Sy.opAt (Sy.sub rowP (saysB Try.f3 liP)) 3, by kernel_rfl, ⟨by kernel_rfl, by kernel_rfl, by kernel_rfl⟩, ⟨by kernel_rfl, by kernel_rfl, by kernel_rfl⟩, ⟨by kernel_rfl, by kernel_rfl, by kernel_rfl⟩, ⟨by kernel_rfl, by kernel_rfl, by kernel_rfl⟩⟩
  lo1 := by kernel_rfl
  any1 := by kernel_rfl
  tx := by kernel_rfl
  ti := by kernel_rfl
  hnr := by decide
  free := by kernel_rfl
  e1 := by kernel_rfl
  e2 := by kernel_rfl
  e3 := by kernel_rfl
  e4 := by kernel_rfl
  out := by kernel_rfl
  uS := Try.underlying22
  uE := ⟨_, Try.underlying41, rfl⟩
  inf := step_info
  zero := by kernel_rfl
  zlen := by kernel_rfl
def tn0 (n : Nat) : Tm := .ap n (.il 0) (.il 0) (.il 0)
set_option maxRecDepth 100000 in
theorem li_in : (matchS 0 (liT Try.prog Try.f3) (liI Try.prog Try.f3)).map noU = some [.i 0 (.il 0), .i 5 (.il 1), .i 6 (.il 0), .c 2 tn, .i 2 (.il 1), .i 3 (.il 1), .i 4 (.il (-1)), .b 0 (.bl false), .c 0 (tn0 40), .c 1 (tn0 41)] := by kernel_rfl
set_option maxRecDepth 100000 in
theorem li_tm : ((lfAt (liPre Try.prog Try.f3) 0).tm[0]?, ((lfAt (liPre Try.prog Try.f3) 0).put (some 11) (.one (.c (.opq 0)))).tm[11]?) = (some (.one (.c (.opq 0))), some (.one (.c (.opq 0)))) := by kernel_rfl
theorem li_okP : okP liP (bodyOf Try.f3) = true := by kernel_rfl
set_option maxRecDepth 100000 in
theorem li_cx : (liT Try.prog Try.f3).cx = ⟨liBs, []⟩ := by kernel_rfl
set_option maxRecDepth 100000 in
theorem li_op0 : shR 0 (some (liT Try.prog Try.f3)) (liOp Try.prog Try.f3 0 0) = some (.must mR1 [] :: .must mR2 [mR1] :: lvS (.seq (pD 53) (rD 55)) (.iv 3) (.ap 33 (.cv 2) (rD 58) (.iv 6)) (.bv 0) (.ap 34 (.cv 2) (rD 58) (.iv 6)) (.ap 30 (.cv 2) (rD 58) (.il 0)) (pD 59) (rD 58) bkR [mR2, mR1]) := by kernel_rfl
set_option maxRecDepth 100000 in
theorem li_op1 : shR 0 (some (liT Try.prog Try.f3)) (liOp Try.prog Try.f3 1 3) = some (.must mP1 [] :: .must mP2 [mP1] :: lvS (.bq (pA 47) (rA 52)) (pA 44) (.ap 33 (rA 50) (.iv 5) (rA 51)) (pA 46) (.ap 34 (rA 50) (.iv 5) (rA 51)) (.ap 30 (rA 50) (.iv 5) (.il 0)) (.iv 2) (.iv 5) bkP [mP2, mP1]) := by kernel_rfl
def gEnd : Tm := .sub (.il 2048) (.sub (.ap 30 (.cv 2) (.iv 5) (.il 0)) (.iv 5))
set_option maxRecDepth 100000 in
theorem li_end : smR Try.prog Try.f3 0 (run Try.prog liSp 10 400 0 (.code (aft .normal (liP ++ [1]) (bodyOf Try.f3))) (lfAt (saysHd Try.prog Try.f3 liP (liT Try.prog Try.f3) 0) 1)) = some
    [.ret (.one (.c (.bool (.eq (.sub (.il 2048) (.sub (.add (.iv 3) (.il (-1))) (.iv 2))) gEnd)))) [inT 2 true (.cv 2)] [.bv 0, .not (.lt (.iv 0) (.iv 1))],
    .ret (.one (.c (.bool (.eq (.sub (.il 2048) (.sub (.iv 3) (.iv 2))) gEnd)))) [inT 2 true (.cv 2)] [.not (.bv 0), .not (.lt (.iv 0) (.iv 1))]] := by kernel_rfl
end Go.Proofs.Ytnjpoidpfcfbeaa
