/- The reference's Put: runs with letters. -/
import Derived.Test.YtnjpoidpfcfbeaaIq2
namespace Go.Proofs.Ytnjpoidpfcfbeaa
open Go.RowKit Sy
set_option linter.unusedVariables false
set_option linter.unusedSimpArgs false

def iI (n : Nat) : SV := .one (.c (.int .i64 (.iv n)))
def bB (n : Nat) : SV := .one (.c (.bool (.bv n)))
def I64 (t : Tm) : Bd := ⟨t, -9223372036854775808, 9223372036854775807⟩
def bySp : Sy.Spec := chgSp 65 bySel
def kmT (t : Tm) : Tm := .ap 31 t (.il 0) (.il 0)
def gapT (t : Tm) : Tm := .ap 30 t (.iv 0) (.il 0)
def puP : List Nat := [1, 1, 1, 1, 0, 1, 2]
def puBs : List Bd := [B61 (.iv 0), B61 (.iv 1), B61 (kmT (.cv 0)), I64 (.iv 2), ⟨.len (.sv 0), 0, 140737488355328⟩]
def puSt : Sy.St := ⟨[], [inO 0 2 true (.iv 0) (.iv 1), inT 2 true (.cv 0)], ⟨puBs, []⟩, 4⟩
def puA : List SV := [.one (.c (.ptr 0 0)), iI 2, .one (.c (.str (.sv 0))), bB 0]
def pu0 (P : Program) (fn : Func) : Rs := run P [bySp] 10 400 4 (.code (pre puP (bodyOf fn))) (enterS fn puA puSt)
def lpBs : List Bd := [B61 (.iv 5), ⟨.iv 6, 0, 2305843009213695999⟩, ⟨.iv 3, 0, 140737488355328⟩, B61 (.iv 0), B61 (.iv 1), ⟨.iv 2, -1152921504606846976, 1152921504606846976⟩, ⟨.len (.sv 0), 0, 140737488355328⟩]
def puT (P : Program) (fn : Func) : Sy.St := tplK (lfAt (pu0 P fn) 1) [0, 1, 2, 3, 8, 31] [(9, iI 5), (10, iI 6), (32, iI 3)] [inT 2 true (.cv 1)] ⟨lpBs, []⟩ 10
def pu1 (P : Program) (fn : Func) : Rs := run P [] 10 400 4 (.code (lpBody (Sy.sub puP (bodyOf fn)))) (puT P fn)
/-- What stands behind the first loop. -/
def puR (fn : Func) : Code := Sy.sub [1, 1, 1, 1, 1] (bodyOf fn)
def pu2 (P : Program) (fn : Func) : Rs := run P [] 10 400 4 (.code (pre [0, 1, 1] (puR fn))) (lfAt (pu1 P fn) 6)
def uBs : List Bd := [B61 (.iv 5), ⟨.iv 7, -2305843009213693952, 2305843009213693952⟩, B61 (.iv 0), B61 (.iv 1), B61 (kmT (.cv 1))]
def puU (P : Program) (fn : Func) : Sy.St := tplK (lfAt (pu2 P fn) 0) [0, 8] [(9, iI 5), (15, iI 7), (104, bB 1)] [] ⟨uBs, []⟩ 10
def thnOf : Code → Code
  | .cond _ a _ => a
  | _ => .skip
def puH (fn : Func) : Code := thnOf (Sy.sub [0, 1, 1] (puR fn))
def pu3 (P : Program) (fn : Func) : Rs := run P [] 10 400 4 (.code (pre [1, 0, 0] (puH fn))) (puU P fn)
def opsOf : Code → List Oper
  | .region _ ops _ => ops.toList
  | _ => []
def puA4 (fn : Func) : List Oper := (opsOf (Sy.sub [1, 0, 0] (puH fn))).take 4
def puS4 (P : Program) (fn : Func) : Sy.St := (opsSt P [] 10 400 4 (puA4 fn) (lfAt (pu3 P fn) 0)).getD default
/-- Behind 'range'. -/
def puS5 (P : Program) (fn : Func) : Sy.St := (puS4 P fn).put (some 109) (.one (.c (.ptr 40 0)))
def puW (P : Program) (fn : Func) : Sy.St := tplK (puS5 P fn) [0, 8, 109] [(9, iI 5), (15, iI 7), (16, bB 2)] [] ⟨uBs, []⟩ 50
def puB (fn : Func) : Code := lpBody (Sy.sub [1, 0, 1, 2] (puH fn))
def puX (P : Program) (fn : Func) : Sy.St := (puW P fn).put (some 17) (iI 100)
def pu5 (P : Program) (fn : Func) : Rs := run P [] 10 400 42 (.code (Sy.sub [1, 1, 2, 1] (puB fn))) (ro (puX P fn))
def puV (P : Program) (fn : Func) : Sy.St := ⟨tmK [0, 8] [(9, iI 5)] 0 (puU P fn).tm, [inO 0 2 true (.iv 0) (.iv 8), inT 2 true (.cv 1)], ⟨[B61 (.iv 5), B61 (.iv 0), B61 (.iv 8), B61 (kmT (.cv 1))], []⟩, 10⟩
def pu6 (P : Program) (fn : Func) : Rs := run P [] 10 400 4 (.code (Sy.sub [1, 1] (puH fn))) (puW P fn)
def inC (t x : Tm) : Tm := .le (.il 0) (mapIx 1 t (.tb (.cons (.int .i64)) x trow (.il 0)))
theorem inC_ok {ρ : Env} (t x : Tm) : ((den ρ (inC t x)).b = true) = (inM (den ρ t).c (den ρ x).i ≠ none) := by
  apply propext
  rw [inC, t_le, mapIx_den (k := kR (den ρ x).i) rfl]
  exact mixed _ _
set_option maxRecDepth 100000 in
theorem pu_run0 : shR 4 none (pu0 Try.prog Try.f12) = some
    [.out 0 .ret [.eq (gapT (.cv 0)) (.iv 1), .lt (.il 0) (.iv 1), .not (.lt (.il 1152921504606846976) (.iv 2)), .not (.lt (.iv 2) (.il (-1152921504606846976)))],
    .out 1 .normal [.not (.eq (gapT (.cv 0)) (.iv 1)), .lt (.il 0) (.iv 1), .not (.lt (.il 1152921504606846976) (.iv 2)), .not (.lt (.iv 2) (.il (-1152921504606846976)))],
    .out 2 .normal [.not (.lt (.il 0) (.iv 1)), .not (.lt (.il 1152921504606846976) (.iv 2)), .not (.lt (.iv 2) (.il (-1152921504606846976)))],
    .out 3 .ret [.lt (.il 1152921504606846976) (.iv 2), .not (.lt (.iv 2) (.il (-1152921504606846976)))],
    .out 4 .ret [.lt (.iv 2) (.il (-1152921504606846976))]] := by kernel_rfl
def puM0 : List As := [.i 5 (gapT (.cv 0)), .i 6 (.add (gapT (.cv 0)) (.sub (.il 2048) (.sub (gapT (.cv 0)) (.iv 0)))), .i 3 (.il 0), .c 1 (.cv 0)]
set_option maxRecDepth 100000 in
theorem pu_match1 : (matchS 4 (puT Try.prog Try.f12) (lfAt (pu0 Try.prog Try.f12) 1)).map noU = some puM0 := by kernel_rfl
set_option maxRecDepth 100000 in
theorem pu_match2 : (matchS 4 (puT Try.prog Try.f12) (lfAt (pu0 Try.prog Try.f12) 2)).map noU = some puM0 := by kernel_rfl
set_option maxRecDepth 100000 in
theorem pu_ret : [0, 3, 4].map (fun k => retS Try.prog (lfAt (pu0 Try.prog Try.f12) k) Try.f12.results.toList) = [0, 3, 4].map (fun k => some (.one (.c (.bool (.bl false))))) := by kernel_rfl
set_option maxRecDepth 100000 in
theorem pu_hp : [0, 3, 4].map (fun k => (lfAt (pu0 Try.prog Try.f12) k).hp) = [0, 3, 4].map (fun k => puSt.hp) := by kernel_rfl
def pT : Tm := .add (.iv 2) (.iv 3)
def pR : Tm := .tb (.cons (.int .i64)) pT (.tb (.cons (.int .u8)) (.byte (.sv 0) (.iv 3)) trow (.il 0)) (.il 0)
def pI : Tm := .lt (.iv 3) (.len (.sv 0))
def pN : Tm := inC (.cv 1) pT
def pB : List As := [.i 3 (.add (.iv 3) (.il 1))]
def pBc : List As := [.i 3 (.add (.iv 3) (.il 1)), .c 1 (.tb (.mput 1) (.cv 1) pR (.il 0))]
set_option maxRecDepth 100000 in
theorem pu_run1 : shR 4 (some (puT Try.prog Try.f12)) (pu1 Try.prog Try.f12) = some
    [.back pBc [.lt pT (.iv 1), .not (.eq (.iv 1) (.il 0)), .lt pT (.iv 6), .le (.iv 5) pT, .not pN, pI],
    .back pB [.not (.lt pT (.iv 1)), .not (.eq (.iv 1) (.il 0)), .lt pT (.iv 6), .le (.iv 5) pT, .not pN, pI],
    .back pBc [.eq (.iv 1) (.il 0), .lt pT (.iv 6), .le (.iv 5) pT, .not pN, pI],
    .back pB [.not (.lt pT (.iv 6)), .le (.iv 5) pT, .not pN, pI],
    .back pB [.not (.le (.iv 5) pT), .not pN, pI],
    .back pB [pN, pI],
    .out 6 (.exit 0) [.not pI]] := by kernel_rfl
set_option maxRecDepth 100000 in
theorem pu_loop : Code.loop (lpBody (Sy.sub puP (bodyOf Try.f12))) = Sy.sub puP (bodyOf Try.f12) := by kernel_rfl
set_option maxRecDepth 100000 in
theorem pu_cxT : (puT Try.prog Try.f12).cx = ⟨lpBs, []⟩ := by kernel_rfl
def qT : Tm := .add (.iv 2) (.len (.sv 0))
set_option maxRecDepth 100000 in
theorem pu_run2 : shR 4 (some (puU Try.prog Try.f12)) (pu2 Try.prog Try.f12) = some
    [.back [.i 7 qT, .b 1 (.le qT (.iv 6))] [.le (.iv 5) qT, .eq (.iv 1) (.il 0), .bv 0, .not pI],
    .back [.i 7 qT, .b 1 (.bl false)] [.not (.le (.iv 5) qT), .eq (.iv 1) (.il 0), .bv 0, .not pI],
    .back [.i 7 qT, .b 1 (.bl false)] [.not (.eq (.iv 1) (.il 0)), .bv 0, .not pI],
    .back [.i 7 qT, .b 1 (.bl false)] [.not (.bv 0), .not pI]] := by kernel_rfl
set_option maxRecDepth 100000 in
theorem pu_cxU : (puU Try.prog Try.f12).cx = ⟨uBs, []⟩ := by kernel_rfl
theorem pu_cond : ∃ c, Sy.sub [0, 1, 1] (puR Try.f12) = .cond c (puH Try.f12) .skip ∧ opd (puU Try.prog Try.f12).tm c = some (bB 1) := ⟨.tmp 104, by kernel_rfl, by kernel_rfl⟩
set_option maxRecDepth 100000 in
theorem pu_run3 : shR 4 none (pu3 Try.prog Try.f12) = some [.out 0 .normal []] := by kernel_rfl
set_option maxRecDepth 100000 in
theorem pu_run4 : opsSt Try.prog [] 10 400 4 (puA4 Try.f12) (lfAt (pu3 Try.prog Try.f12) 0) = some (puS4 Try.prog Try.f12) := by kernel_rfl
structure RgA (c : Code) (xs : List Oper) (t : TypeId) (m d : Nat) : Prop where
  c : ∃ o, c = .region (rgId c) (xs ++ [o]).toArray false ∧ o.guard = none ∧ o.op = .range t (.tmp m) ∧ o.dst = some d
theorem pu_rgA : RgA (Sy.sub [1, 0, 0] (puH Try.f12)) (puA4 Try.f12) 106 108 109 := ⟨Sy.opAt (Sy.sub [1, 0, 0] (puH Try.f12)) 4, by kernel_rfl, by kernel_rfl, by kernel_rfl, by kernel_rfl⟩
set_option maxRecDepth 100000 in
theorem pu_s4 : ((puS4 Try.prog Try.f12).tm[108]?, mapFind (puS4 Try.prog Try.f12).hp 2, (puS4 Try.prog Try.f12).free 40, (puS4 Try.prog Try.f12).free 41) = (some (.one (.c (.map 2))), some (inT 2 true (.cv 1), [.int .i64], false, .int .u8, .cv 1), true, true) := by kernel_rfl
set_option maxRecDepth 100000 in
theorem pu_match5 : (matchS 42 (puW Try.prog Try.f12) (puS5 Try.prog Try.f12)).map noU = some [.b 2 (.bl true)] := by kernel_rfl
set_option maxRecDepth 100000 in
theorem pu_cxW : (puW Try.prog Try.f12).cx = ⟨uBs, []⟩ := by kernel_rfl
theorem pu_loopW : Code.loop (puB Try.f12) = Sy.sub [1, 0, 1, 2] (puH Try.f12) := by kernel_rfl
/-- A round: the step, the test, the entry, the rest. -/
structure RgB (c : Code) (it n x e k v id : Nat) : Prop where
  c : ∃ o1 o2 o3 o4 o5 : Oper, ∃ i1 i2 : Nat, ∃ r : Code, c = .seq (.region i1 #[o1, o2] false) (.seq (.cond (.tmp x) .skip (.exit id)) (.block (id + 1) (.seq (.region i2 #[o3, o4, o5] false) r))) ∧ (o1.guard = none ∧ o1.op = .next (.tmp it) false ∧ o1.dst = some n) ∧ (o2.guard = none ∧ o2.op = .extract (.tmp n) 0 ∧ o2.dst = some x) ∧
    (o3.guard = none ∧ o3.op = .entry (.tmp it) ∧ o3.dst = some e) ∧ (o4.guard = none ∧ o4.op = .extract (.tmp e) 0 ∧ o4.dst = some k) ∧ (o5.guard = none ∧ o5.op = .assign (.tmp k) ∧ o5.dst = some v)
theorem pu_rgB : RgB (puB Try.f12) 109 110 111 112 113 17 2 := ⟨Sy.opAt (Sy.sub [0] (puB Try.f12)) 0, Sy.opAt (Sy.sub [0] (puB Try.f12)) 1, Sy.opAt (Sy.sub [1, 1, 2, 0] (puB Try.f12)) 0, Sy.opAt (Sy.sub [1, 1, 2, 0] (puB Try.f12)) 1, Sy.opAt (Sy.sub [1, 1, 2, 0] (puB Try.f12)) 2, rgId (Sy.sub [0] (puB Try.f12)), rgId (Sy.sub [1, 1, 2, 0] (puB Try.f12)), Sy.sub [1, 1, 2, 1] (puB Try.f12), by kernel_rfl, ⟨by kernel_rfl, by kernel_rfl, by kernel_rfl⟩, ⟨by kernel_rfl, by kernel_rfl, by kernel_rfl⟩, ⟨by kernel_rfl, by kernel_rfl, by kernel_rfl⟩, ⟨by kernel_rfl, by kernel_rfl, by kernel_rfl⟩, ⟨by kernel_rfl, by kernel_rfl, by kernel_rfl⟩⟩
set_option maxRecDepth 100000 in
theorem pu_any : [110, 111, 112, 113, 17].map (fun d => (puW Try.prog Try.f12).tm[d]?) = [some (.any 110), some (.any 111), some (.any 112), some (.any 113), some (.any 17)] := by kernel_rfl
set_option maxRecDepth 100000 in
theorem pu_noany : [110, 111, 112, 113, 17].map (fun d => noAny d ((puW Try.prog Try.f12).tm.set d undS)) = [true, true, true, true, true] := by kernel_rfl
set_option maxRecDepth 100000 in
theorem pu_it : ((puW Try.prog Try.f12).tm[109]?, lowSt 100 (puW Try.prog Try.f12)) = (some (.one (.c (.ptr 40 0))), true) := by kernel_rfl
set_option maxRecDepth 100000 in
theorem pu_run5 : shR 42 (some (ro (puW Try.prog Try.f12))) (pu5 Try.prog Try.f12) = some [.back [.b 2 (.lt (.iv 100) (.iv 7))] [.bv 2], .back [.b 2 (.bl false)] [.not (.bv 2)]] := by kernel_rfl
set_option maxRecDepth 100000 in
theorem pu_run6 : shR 4 (some (puV Try.prog Try.f12)) (pu6 Try.prog Try.f12) = some [.back [.i 8 (.iv 7)] [.bv 2], .back [.i 8 (.iv 1)] [.not (.bv 2)]] := by kernel_rfl
set_option maxRecDepth 100000 in
theorem pu_match7 : (matchS 4 (puV Try.prog Try.f12) (puU Try.prog Try.f12)).map noU = some [.i 8 (.iv 1)] := by kernel_rfl
set_option maxRecDepth 100000 in
theorem pu_cxV : (puV Try.prog Try.f12).cx = ⟨[B61 (.iv 5), B61 (.iv 0), B61 (.iv 8), B61 (kmT (.cv 1))], []⟩ := by kernel_rfl
set_option maxRecDepth 100000 in
theorem pu_hpW : (puW Try.prog Try.f12).hp = [inO 0 2 true (.iv 0) (.iv 1), inT 2 true (.cv 1)] := by kernel_rfl
def vHp : List Bk := [inO 0 2 true (.iv 0) (.iv 8), inT 2 true (.cv 1)]
set_option maxRecDepth 100000 in
theorem pu_run7 : smR Try.prog Try.f12 4 (run Try.prog [bySp] 10 400 4 (.code (aft .normal [0, 1, 1] (puR Try.f12))) (puV Try.prog Try.f12)) = some
    [.ret (.one (.c (.bool (.lt (.iv 5) (.add (gapT (.cv 1)) (.il 1)))))) vHp [.eq (gapT (.cv 1)) (.iv 8), .lt (.il 0) (.iv 8)],
    .ret (.one (.c (.bool (.lt (.iv 5) (gapT (.cv 1)))))) vHp [.not (.eq (gapT (.cv 1)) (.iv 8)), .lt (.il 0) (.iv 8)],
    .ret (.one (.c (.bool (.lt (.iv 5) (gapT (.cv 1)))))) vHp [.not (.lt (.il 0) (.iv 8))]] := by kernel_rfl
end Go.Proofs.Ytnjpoidpfcfbeaa
