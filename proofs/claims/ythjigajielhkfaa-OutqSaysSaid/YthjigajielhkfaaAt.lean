/- The reference's piece at a place: by runs with letters. Printed by gen_at.py. -/
import Derived.Test.YthjigajielhkfaaPiece
namespace Go.Proofs.Ythjigajielhkfaa
open Go.RowKit Sy
set_option linter.unusedVariables false
set_option linter.unusedSimpArgs false

def anys (b n : Nat) : List SV := (List.range n).map fun i => .any (b + i)
def atR : List C := [.str (.sv 0), .bool (.bv 0), .int .i64 (.iv 4), .int .i64 (.iv 5), .int .i64 (.iv 6)]
def atBs : List Bd := [⟨.iv 0, 0, 1152921504606846976⟩, ⟨.iv 1, -9223372036854775808, 9223372036854775807⟩, ⟨.iv 2, -9223372036854775808, 9223372036854775807⟩, ⟨.len (.sv 0), 0, 576460752303423488⟩]
def atHp : List Bk := [⟨0, 44, atR, false, none⟩]
def atArgs : List SV := [.one (.c (.ptr 0 0)), .one (.c (.int .i64 (.iv 0))), .one (.c (.int .i64 (.iv 1))), .one (.c (.int .i64 (.iv 2)))]
def atP : List Nat := [1, 1, 1, 1, 1, 0, 2]
def atS : Sy.St := ⟨[], atHp, ⟨atBs, []⟩, 4⟩
def atT : Sy.St := ⟨[.one (.c (.ptr 0 0)), .one (.c (.int .i64 (.iv 0))), .one (.c (.int .i64 (.iv 1))), .one (.c (.int .i64 (.iv 2))), .any 4, .any 5, .any 6, .any 7, .one (.c (.ptr 4 0)), .any 9, .one (.c (.ptr 32 0)), .one (.c (.int .i64 (.iv 3)))] ++ anys 12 74,
  [⟨32, 56, [.int .i64 (.iv 0), .bool (.bl false), .bool (.bl false), .str (.sv 1)], true, none⟩, ⟨4, 56, [.int .i64 (.il 0), .bool (.bl false), .bool (.bl false), .str (.sl [])], true, none⟩] ++ atHp, ⟨⟨.iv 3, 1, 1152921504606846976⟩ :: ⟨.len (.sv 1), 0, 576460752303423488⟩ :: atBs, []⟩, 60⟩
def at0 (P : Program) (fn : Func) : Rs := run P [] 10 400 4 (.code (pre atP (bodyOf fn))) (enterS fn atArgs atS)
def at1 (P : Program) (fn : Func) : Rs := run P [] 10 400 4 (.code (lpBody (Sy.sub atP (bodyOf fn)))) atT
set_option maxRecDepth 100000 in
theorem at_run0 : shR 4 none (at0 Try.prog Try.f34) = some
    [(.out 0 .ret [(.lt (.iv 2) (.il 1)), (.not (.le (.add (.len (.sv 0)) (.il 2)) (.iv 0))), (.bv 0), (.not (.le (.iv 1) (.iv 0)))]),
    (.out 1 .ret [(.eq (.iv 0) (.il 0)), (.not (.lt (.iv 2) (.il 1))), (.not (.le (.add (.len (.sv 0)) (.il 2)) (.iv 0))), (.bv 0), (.not (.le (.iv 1) (.iv 0)))]),
    (.out 2 .normal [(.not (.eq (.iv 0) (.il 0))), (.not (.lt (.iv 2) (.il 1))), (.not (.le (.add (.len (.sv 0)) (.il 2)) (.iv 0))), (.bv 0), (.not (.le (.iv 1) (.iv 0)))]),
    (.out 3 .ret [(.le (.add (.len (.sv 0)) (.il 2)) (.iv 0)), (.bv 0), (.not (.le (.iv 1) (.iv 0)))]),
    (.out 4 .ret [(.lt (.iv 2) (.il 1)), (.not (.le (.add (.len (.sv 0)) (.il 1)) (.iv 0))), (.not (.bv 0)), (.not (.le (.iv 1) (.iv 0)))]),
    (.out 5 .ret [(.eq (.iv 0) (.il 0)), (.not (.lt (.iv 2) (.il 1))), (.not (.le (.add (.len (.sv 0)) (.il 1)) (.iv 0))), (.not (.bv 0)), (.not (.le (.iv 1) (.iv 0)))]),
    (.out 6 .normal [(.not (.eq (.iv 0) (.il 0))), (.not (.lt (.iv 2) (.il 1))), (.not (.le (.add (.len (.sv 0)) (.il 1)) (.iv 0))), (.not (.bv 0)), (.not (.le (.iv 1) (.iv 0)))]),
    (.out 7 .ret [(.le (.add (.len (.sv 0)) (.il 1)) (.iv 0)), (.not (.bv 0)), (.not (.le (.iv 1) (.iv 0)))]),
    (.out 8 .ret [(.le (.iv 1) (.iv 0))])] := by kernel_rfl
set_option maxRecDepth 100000 in
theorem at_match2 : (matchS 4 atT (lfAt (at0 Try.prog Try.f34) 2)).map noU = some [.i 3 (.iv 0), .s 1 (.sl [])] := by kernel_rfl
set_option maxRecDepth 100000 in
theorem at_match6 : (matchS 4 atT (lfAt (at0 Try.prog Try.f34) 6)).map noU = some [.i 3 (.iv 0), .s 1 (.sl [])] := by kernel_rfl
set_option maxRecDepth 100000 in
theorem at_run1 : shR 4 (some atT) (at1 Try.prog Try.f34) = some
    [(.must (.le (.add (.iv 3) (.il (-1))) (.iv 3)) [(.lt (.len (.sv 1)) (.iv 2)), (.le (.iv 3) (.len (.sv 0))), (.lt (.iv 3) (.iv 1))]),
    (.back [(.i 3 (.add (.iv 3) (.il 1))), (.s 1 (.app (.sv 1) (.cut (.sv 0) (.add (.iv 3) (.il (-1))) (.iv 3))))] [(.le (.add (.iv 3) (.il (-1))) (.iv 3)), (.lt (.len (.sv 1)) (.iv 2)), (.le (.iv 3) (.len (.sv 0))), (.lt (.iv 3) (.iv 1))]),
    (.out 2 (.exit 0) [(.not (.lt (.len (.sv 1)) (.iv 2))), (.le (.iv 3) (.len (.sv 0))), (.lt (.iv 3) (.iv 1))]),
    (.out 3 (.exit 0) [(.not (.le (.iv 3) (.len (.sv 0)))), (.lt (.iv 3) (.iv 1))]),
    (.out 4 (.exit 0) [(.not (.lt (.iv 3) (.iv 1)))])] := by kernel_rfl
set_option maxRecDepth 100000 in
theorem at_aft2 : smR Try.prog Try.f34 4 (run Try.prog [] 10 400 4 (.code (aft (.exit 0) atP (bodyOf Try.f34))) (lfAt (at1 Try.prog Try.f34) 2)) = some
    [(.ret (.tup [(.agg [(.int .i64 (.iv 0)), (.bool (.bl false)), (.bool (.bl true)), (.str (.sv 1))]), (.c (.bool (.bl true)))]) atHp [(.eq (.iv 3) (.add (.len (.sv 0)) (.il 1))), (.bv 0), (.not (.lt (.len (.sv 1)) (.iv 2))), (.le (.iv 3) (.len (.sv 0))), (.lt (.iv 3) (.iv 1))]),
    (.ret (.tup [(.agg [(.int .i64 (.iv 0)), (.bool (.bl false)), (.bool (.bl false)), (.str (.sv 1))]), (.c (.bool (.bl true)))]) atHp [(.not (.eq (.iv 3) (.add (.len (.sv 0)) (.il 1)))), (.bv 0), (.not (.lt (.len (.sv 1)) (.iv 2))), (.le (.iv 3) (.len (.sv 0))), (.lt (.iv 3) (.iv 1))]),
    (.ret (.tup [(.agg [(.int .i64 (.iv 0)), (.bool (.bl false)), (.bool (.bl false)), (.str (.sv 1))]), (.c (.bool (.bl true)))]) atHp [(.not (.bv 0)), (.not (.lt (.len (.sv 1)) (.iv 2))), (.le (.iv 3) (.len (.sv 0))), (.lt (.iv 3) (.iv 1))])] := by kernel_rfl
set_option maxRecDepth 100000 in
theorem at_aft3 : smR Try.prog Try.f34 4 (run Try.prog [] 10 400 4 (.code (aft (.exit 0) atP (bodyOf Try.f34))) (lfAt (at1 Try.prog Try.f34) 3)) = some
    [(.ret (.tup [(.agg [(.int .i64 (.iv 0)), (.bool (.bl false)), (.bool (.bl true)), (.str (.sv 1))]), (.c (.bool (.bl true)))]) atHp [(.eq (.iv 3) (.add (.len (.sv 0)) (.il 1))), (.bv 0), (.not (.le (.iv 3) (.len (.sv 0)))), (.lt (.iv 3) (.iv 1))]),
    (.ret (.tup [(.agg [(.int .i64 (.iv 0)), (.bool (.bl false)), (.bool (.bl false)), (.str (.sv 1))]), (.c (.bool (.bl true)))]) atHp [(.not (.eq (.iv 3) (.add (.len (.sv 0)) (.il 1)))), (.bv 0), (.not (.le (.iv 3) (.len (.sv 0)))), (.lt (.iv 3) (.iv 1))]),
    (.ret (.tup [(.agg [(.int .i64 (.iv 0)), (.bool (.bl false)), (.bool (.bl false)), (.str (.sv 1))]), (.c (.bool (.bl true)))]) atHp [(.not (.bv 0)), (.not (.le (.iv 3) (.len (.sv 0)))), (.lt (.iv 3) (.iv 1))])] := by kernel_rfl
set_option maxRecDepth 100000 in
theorem at_aft4 : smR Try.prog Try.f34 4 (run Try.prog [] 10 400 4 (.code (aft (.exit 0) atP (bodyOf Try.f34))) (lfAt (at1 Try.prog Try.f34) 4)) = some
    [(.ret (.tup [(.agg [(.int .i64 (.iv 0)), (.bool (.bl false)), (.bool (.bl false)), (.str (.sv 1))]), (.c (.bool (.bl true)))]) atHp [(.eq (.iv 3) (.add (.len (.sv 0)) (.il 1))), (.bv 0), (.not (.lt (.iv 3) (.iv 1)))]),
    (.ret (.tup [(.agg [(.int .i64 (.iv 0)), (.bool (.bl false)), (.bool (.bl false)), (.str (.sv 1))]), (.c (.bool (.bl true)))]) atHp [(.not (.eq (.iv 3) (.add (.len (.sv 0)) (.il 1)))), (.bv 0), (.not (.lt (.iv 3) (.iv 1)))]),
    (.ret (.tup [(.agg [(.int .i64 (.iv 0)), (.bool (.bl false)), (.bool (.bl false)), (.str (.sv 1))]), (.c (.bool (.bl true)))]) atHp [(.not (.bv 0)), (.not (.lt (.iv 3) (.iv 1)))])] := by kernel_rfl
def atZ : List C := [.int .i64 (.il 0), .bool (.bl false), .bool (.bl false), .str (.sl [])]
def atY : List C := [.int .i64 (.il 0), .bool (.bl true), .bool (.bl false), .str (.sl [])]
set_option maxRecDepth 100000 in
theorem at_ret0 : [0, 3, 4, 7, 8].map (fun k => retS Try.prog (lfAt (at0 Try.prog Try.f34) k) Try.f34.results.toList) = [0, 3, 4, 7, 8].map (fun k => some (.tup [.agg atZ, .c (.bool (.bl false))])) := by kernel_rfl
set_option maxRecDepth 100000 in
theorem at_ret1 : [1, 5].map (fun k => retS Try.prog (lfAt (at0 Try.prog Try.f34) k) Try.f34.results.toList) = [1, 5].map (fun k => some (.tup [.agg atY, .c (.bool (.bl true))])) := by kernel_rfl
theorem at_loop : Code.loop (lpBody (Sy.sub atP (bodyOf Try.f34))) = Sy.sub atP (bodyOf Try.f34) := by kernel_rfl
end Go.Proofs.Ythjigajielhkfaa
