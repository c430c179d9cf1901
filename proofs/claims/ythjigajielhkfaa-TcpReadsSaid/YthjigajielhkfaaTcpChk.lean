/- The program's and the reference's check of segments, and the flags: by runs with letters. Printed by gen_tcpchk.py. -/
import Derived.Test.YthjigajielhkfaaTcpBits
namespace Go.Proofs.Ythjigajielhkfaa
open Go.RowKit Sy
set_option linter.unusedVariables false
set_option linter.unusedSimpArgs false

def segC : List C := [.int .u32 (.iv 0), .int .i64 (.iv 1), .int .u32 (.iv 2), .int .i64 (.iv 3), .int .u32 (.iv 4), .int .u32 (.iv 5), .bool (.bv 0), .bool (.bv 1), .bool (.bv 2), .bool (.bv 3), .int .i64 (.iv 6), .int .i64 (.iv 7), .str (.sv 0)]
def seg : SV := .one (.agg segC)
/-- A segment's cells. -/
def segL (sa sp da dp sq ak : Int) (syn hasAck fin rst : Bool) (win mss : Int) (body : ByteArray) : List Value :=
  [.int .u32 sa, .int .i64 sp, .int .u32 da, .int .i64 dp, .int .u32 sq, .int .u32 ak, .bool syn, .bool hasAck, .bool fin, .bool rst, .int .i64 win, .int .i64 mss, .string body]
def segV (sa sp da dp sq ak : Int) (syn hasAck fin rst : Bool) (win mss : Int) (body : ByteArray) : Value := .agg (segL sa sp da dp sq ak syn hasAck fin rst win mss body).toArray
def u32Bd (n : Nat) : Bd := ⟨.iv n, 0, 4294967295⟩
def i64Bd (n : Nat) : Bd := ⟨.iv n, -9223372036854775808, 9223372036854775807⟩
def chkSt : Sy.St := ⟨[], [], ⟨[u32Bd 0, i64Bd 1, u32Bd 2, i64Bd 3, u32Bd 4, u32Bd 5, i64Bd 6, i64Bd 7, ⟨.len (.sv 0), 0, 9223372036854775807⟩], []⟩, 0⟩
/-- The ranges that a segment's numbers have. -/
structure SegIn (sa sp da dp sq ak win mss : Int) (body : ByteArray) : Prop where
  a0 : 0 ≤ sa
  a1 : sa ≤ 4294967295
  b0 : -9223372036854775808 ≤ sp
  b1 : sp ≤ 9223372036854775807
  c0 : 0 ≤ da
  c1 : da ≤ 4294967295
  d0 : -9223372036854775808 ≤ dp
  d1 : dp ≤ 9223372036854775807
  e0 : 0 ≤ sq
  e1 : sq ≤ 4294967295
  f0 : 0 ≤ ak
  f1 : ak ≤ 4294967295
  g0 : -9223372036854775808 ≤ win
  g1 : win ≤ 9223372036854775807
  h0 : -9223372036854775808 ≤ mss
  h1 : mss ≤ 9223372036854775807
  s : body.size ≤ 9223372036854775807
def b2 (b : Bool) : Int := if b then 1 else 0
theorem b2_true : b2 true = 1 := rfl
theorem b2_false : b2 false = 0 := rfl
theorem b2_bd (b : Bool) : 0 ≤ b2 b ∧ b2 b ≤ 1 := by cases b <;> decide
def tcpErr (sp dp ak : Int) (syn hasAck fin rst : Bool) (win mss : Int) (len : Int) : Int :=
  if sp < 1 ∨ 65535 < sp ∨ dp < 1 ∨ 65535 < dp ∨ win < 0 ∨ 65535 < win ∨ mss < 0 ∨ 65535 < mss then 1
  else if (0 < mss ∧ b2 syn = 0) ∨ (b2 syn = 1 ∧ b2 fin = 1) ∨ (b2 syn = 1 ∧ b2 rst = 1) ∨ (b2 fin = 1 ∧ b2 rst = 1) ∨ (0 < ak ∧ b2 hasAck = 0) then 4
  else if 1000 < len then 2 else 0
section
variable {sa sp da dp sq ak win mss : Int} {body : ByteArray}
def segEnv (sa sp da dp sq ak : Int) (syn hasAck fin rst : Bool) (win mss : Int) (body : ByteArray) : Env := mkEnv [sa, sp, da, dp, sq, ak, win, mss] [syn, hasAck, fin, rst] [body] []
theorem chkSt_ok (h : SegIn sa sp da dp sq ak win mss body) (syn hasAck fin rst : Bool) : chkSt.cx.ok (segEnv sa sp da dp sq ak syn hasAck fin rst win mss body) := by
  refine ⟨fun x hx => ?_, fun t ht => (by cases ht)⟩
  rcases List.mem_cons.1 hx with rfl | hx; · exact ⟨h.a0, h.a1⟩
  rcases List.mem_cons.1 hx with rfl | hx; · exact ⟨h.b0, h.b1⟩
  rcases List.mem_cons.1 hx with rfl | hx; · exact ⟨h.c0, h.c1⟩
  rcases List.mem_cons.1 hx with rfl | hx; · exact ⟨h.d0, h.d1⟩
  rcases List.mem_cons.1 hx with rfl | hx; · exact ⟨h.e0, h.e1⟩
  rcases List.mem_cons.1 hx with rfl | hx; · exact ⟨h.f0, h.f1⟩
  rcases List.mem_cons.1 hx with rfl | hx; · exact ⟨h.g0, h.g1⟩
  rcases List.mem_cons.1 hx with rfl | hx; · exact ⟨h.h0, h.h1⟩
  rcases List.mem_cons.1 hx with rfl | hx
  · have := h.s
    show (0 : Int) ≤ (body.size : Int) ∧ (body.size : Int) ≤ 9223372036854775807
    omega
  cases hx
set_option maxRecDepth 100000 in
theorem tcp_Check_run : smR Try.prog Try.f21 0 (run Try.prog [] 10 400 0 (.code (bodyOf Try.f21)) (enterS Try.f21 [seg] chkSt)) = some
    [(.ret (.one (.c (.int .i64 (.il 1)))) [] [(.lt (.il 65535) (.iv 7)), (.not (.lt (.iv 7) (.il 0))), (.not (.lt (.il 65535) (.iv 6))), (.not (.lt (.iv 6) (.il 0))), (.le (.iv 3) (.il 65535)), (.lt (.il 0) (.iv 3)), (.le (.iv 1) (.il 65535)), (.lt (.il 0) (.iv 1))]),
    (.ret (.one (.c (.int .i64 (.il 4)))) [] [(.not (.bv 1)), (.not (.eq (.iv 5) (.il 0))), (.not (.bv 3)), (.not (.bv 2)), (.bv 0), (.not (.eq (.iv 7) (.il 0))), (.not (.lt (.il 65535) (.iv 7))), (.not (.lt (.iv 7) (.il 0))), (.not (.lt (.il 65535) (.iv 6))), (.not (.lt (.iv 6) (.il 0))), (.le (.iv 3) (.il 65535)), (.lt (.il 0) (.iv 3)), (.le (.iv 1) (.il 65535)), (.lt (.il 0) (.iv 1))]),
    (.ret (.one (.c (.int .i64 (.il 2)))) [] [(.lt (.il 1000) (.len (.sv 0))), (.bv 1), (.not (.eq (.iv 5) (.il 0))), (.not (.bv 3)), (.not (.bv 2)), (.bv 0), (.not (.eq (.iv 7) (.il 0))), (.not (.lt (.il 65535) (.iv 7))), (.not (.lt (.iv 7) (.il 0))), (.not (.lt (.il 65535) (.iv 6))), (.not (.lt (.iv 6) (.il 0))), (.le (.iv 3) (.il 65535)), (.lt (.il 0) (.iv 3)), (.le (.iv 1) (.il 65535)), (.lt (.il 0) (.iv 1))]),
    (.ret (.one (.c (.int .i64 (.il 0)))) [] [(.not (.lt (.il 1000) (.len (.sv 0)))), (.bv 1), (.not (.eq (.iv 5) (.il 0))), (.not (.bv 3)), (.not (.bv 2)), (.bv 0), (.not (.eq (.iv 7) (.il 0))), (.not (.lt (.il 65535) (.iv 7))), (.not (.lt (.iv 7) (.il 0))), (.not (.lt (.il 65535) (.iv 6))), (.not (.lt (.iv 6) (.il 0))), (.le (.iv 3) (.il 65535)), (.lt (.il 0) (.iv 3)), (.le (.iv 1) (.il 65535)), (.lt (.il 0) (.iv 1))]),
    (.ret (.one (.c (.int .i64 (.il 2)))) [] [(.lt (.il 1000) (.len (.sv 0))), (.eq (.iv 5) (.il 0)), (.not (.bv 3)), (.not (.bv 2)), (.bv 0), (.not (.eq (.iv 7) (.il 0))), (.not (.lt (.il 65535) (.iv 7))), (.not (.lt (.iv 7) (.il 0))), (.not (.lt (.il 65535) (.iv 6))), (.not (.lt (.iv 6) (.il 0))), (.le (.iv 3) (.il 65535)), (.lt (.il 0) (.iv 3)), (.le (.iv 1) (.il 65535)), (.lt (.il 0) (.iv 1))]),
    (.ret (.one (.c (.int .i64 (.il 0)))) [] [(.not (.lt (.il 1000) (.len (.sv 0)))), (.eq (.iv 5) (.il 0)), (.not (.bv 3)), (.not (.bv 2)), (.bv 0), (.not (.eq (.iv 7) (.il 0))), (.not (.lt (.il 65535) (.iv 7))), (.not (.lt (.iv 7) (.il 0))), (.not (.lt (.il 65535) (.iv 6))), (.not (.lt (.iv 6) (.il 0))), (.le (.iv 3) (.il 65535)), (.lt (.il 0) (.iv 3)), (.le (.iv 1) (.il 65535)), (.lt (.il 0) (.iv 1))]),
    (.ret (.one (.c (.int .i64 (.il 4)))) [] [(.bv 3), (.not (.bv 2)), (.bv 0), (.not (.eq (.iv 7) (.il 0))), (.not (.lt (.il 65535) (.iv 7))), (.not (.lt (.iv 7) (.il 0))), (.not (.lt (.il 65535) (.iv 6))), (.not (.lt (.iv 6) (.il 0))), (.le (.iv 3) (.il 65535)), (.lt (.il 0) (.iv 3)), (.le (.iv 1) (.il 65535)), (.lt (.il 0) (.iv 1))]),
    (.ret (.one (.c (.int .i64 (.il 4)))) [] [(.bv 2), (.bv 0), (.not (.eq (.iv 7) (.il 0))), (.not (.lt (.il 65535) (.iv 7))), (.not (.lt (.iv 7) (.il 0))), (.not (.lt (.il 65535) (.iv 6))), (.not (.lt (.iv 6) (.il 0))), (.le (.iv 3) (.il 65535)), (.lt (.il 0) (.iv 3)), (.le (.iv 1) (.il 65535)), (.lt (.il 0) (.iv 1))]),
    (.ret (.one (.c (.int .i64 (.il 4)))) [] [(.not (.bv 0)), (.not (.eq (.iv 7) (.il 0))), (.not (.lt (.il 65535) (.iv 7))), (.not (.lt (.iv 7) (.il 0))), (.not (.lt (.il 65535) (.iv 6))), (.not (.lt (.iv 6) (.il 0))), (.le (.iv 3) (.il 65535)), (.lt (.il 0) (.iv 3)), (.le (.iv 1) (.il 65535)), (.lt (.il 0) (.iv 1))]),
    (.ret (.one (.c (.int .i64 (.il 4)))) [] [(.not (.bv 1)), (.not (.eq (.iv 5) (.il 0))), (.not (.bv 3)), (.not (.bv 2)), (.bv 0), (.eq (.iv 7) (.il 0)), (.not (.lt (.il 65535) (.iv 7))), (.not (.lt (.iv 7) (.il 0))), (.not (.lt (.il 65535) (.iv 6))), (.not (.lt (.iv 6) (.il 0))), (.le (.iv 3) (.il 65535)), (.lt (.il 0) (.iv 3)), (.le (.iv 1) (.il 65535)), (.lt (.il 0) (.iv 1))]),
    (.ret (.one (.c (.int .i64 (.il 2)))) [] [(.lt (.il 1000) (.len (.sv 0))), (.bv 1), (.not (.eq (.iv 5) (.il 0))), (.not (.bv 3)), (.not (.bv 2)), (.bv 0), (.eq (.iv 7) (.il 0)), (.not (.lt (.il 65535) (.iv 7))), (.not (.lt (.iv 7) (.il 0))), (.not (.lt (.il 65535) (.iv 6))), (.not (.lt (.iv 6) (.il 0))), (.le (.iv 3) (.il 65535)), (.lt (.il 0) (.iv 3)), (.le (.iv 1) (.il 65535)), (.lt (.il 0) (.iv 1))]),
    (.ret (.one (.c (.int .i64 (.il 0)))) [] [(.not (.lt (.il 1000) (.len (.sv 0)))), (.bv 1), (.not (.eq (.iv 5) (.il 0))), (.not (.bv 3)), (.not (.bv 2)), (.bv 0), (.eq (.iv 7) (.il 0)), (.not (.lt (.il 65535) (.iv 7))), (.not (.lt (.iv 7) (.il 0))), (.not (.lt (.il 65535) (.iv 6))), (.not (.lt (.iv 6) (.il 0))), (.le (.iv 3) (.il 65535)), (.lt (.il 0) (.iv 3)), (.le (.iv 1) (.il 65535)), (.lt (.il 0) (.iv 1))]),
    (.ret (.one (.c (.int .i64 (.il 2)))) [] [(.lt (.il 1000) (.len (.sv 0))), (.eq (.iv 5) (.il 0)), (.not (.bv 3)), (.not (.bv 2)), (.bv 0), (.eq (.iv 7) (.il 0)), (.not (.lt (.il 65535) (.iv 7))), (.not (.lt (.iv 7) (.il 0))), (.not (.lt (.il 65535) (.iv 6))), (.not (.lt (.iv 6) (.il 0))), (.le (.iv 3) (.il 65535)), (.lt (.il 0) (.iv 3)), (.le (.iv 1) (.il 65535)), (.lt (.il 0) (.iv 1))]),
    (.ret (.one (.c (.int .i64 (.il 0)))) [] [(.not (.lt (.il 1000) (.len (.sv 0)))), (.eq (.iv 5) (.il 0)), (.not (.bv 3)), (.not (.bv 2)), (.bv 0), (.eq (.iv 7) (.il 0)), (.not (.lt (.il 65535) (.iv 7))), (.not (.lt (.iv 7) (.il 0))), (.not (.lt (.il 65535) (.iv 6))), (.not (.lt (.iv 6) (.il 0))), (.le (.iv 3) (.il 65535)), (.lt (.il 0) (.iv 3)), (.le (.iv 1) (.il 65535)), (.lt (.il 0) (.iv 1))]),
    (.ret (.one (.c (.int .i64 (.il 4)))) [] [(.bv 3), (.not (.bv 2)), (.bv 0), (.eq (.iv 7) (.il 0)), (.not (.lt (.il 65535) (.iv 7))), (.not (.lt (.iv 7) (.il 0))), (.not (.lt (.il 65535) (.iv 6))), (.not (.lt (.iv 6) (.il 0))), (.le (.iv 3) (.il 65535)), (.lt (.il 0) (.iv 3)), (.le (.iv 1) (.il 65535)), (.lt (.il 0) (.iv 1))]),
    (.ret (.one (.c (.int .i64 (.il 4)))) [] [(.bv 2), (.bv 0), (.eq (.iv 7) (.il 0)), (.not (.lt (.il 65535) (.iv 7))), (.not (.lt (.iv 7) (.il 0))), (.not (.lt (.il 65535) (.iv 6))), (.not (.lt (.iv 6) (.il 0))), (.le (.iv 3) (.il 65535)), (.lt (.il 0) (.iv 3)), (.le (.iv 1) (.il 65535)), (.lt (.il 0) (.iv 1))]),
    (.ret (.one (.c (.int .i64 (.il 4)))) [] [(.not (.bv 1)), (.not (.eq (.iv 5) (.il 0))), (.not (.bv 3)), (.bv 2), (.not (.bv 0)), (.eq (.iv 7) (.il 0)), (.not (.lt (.il 65535) (.iv 7))), (.not (.lt (.iv 7) (.il 0))), (.not (.lt (.il 65535) (.iv 6))), (.not (.lt (.iv 6) (.il 0))), (.le (.iv 3) (.il 65535)), (.lt (.il 0) (.iv 3)), (.le (.iv 1) (.il 65535)), (.lt (.il 0) (.iv 1))]),
    (.ret (.one (.c (.int .i64 (.il 2)))) [] [(.lt (.il 1000) (.len (.sv 0))), (.bv 1), (.not (.eq (.iv 5) (.il 0))), (.not (.bv 3)), (.bv 2), (.not (.bv 0)), (.eq (.iv 7) (.il 0)), (.not (.lt (.il 65535) (.iv 7))), (.not (.lt (.iv 7) (.il 0))), (.not (.lt (.il 65535) (.iv 6))), (.not (.lt (.iv 6) (.il 0))), (.le (.iv 3) (.il 65535)), (.lt (.il 0) (.iv 3)), (.le (.iv 1) (.il 65535)), (.lt (.il 0) (.iv 1))]),
    (.ret (.one (.c (.int .i64 (.il 0)))) [] [(.not (.lt (.il 1000) (.len (.sv 0)))), (.bv 1), (.not (.eq (.iv 5) (.il 0))), (.not (.bv 3)), (.bv 2), (.not (.bv 0)), (.eq (.iv 7) (.il 0)), (.not (.lt (.il 65535) (.iv 7))), (.not (.lt (.iv 7) (.il 0))), (.not (.lt (.il 65535) (.iv 6))), (.not (.lt (.iv 6) (.il 0))), (.le (.iv 3) (.il 65535)), (.lt (.il 0) (.iv 3)), (.le (.iv 1) (.il 65535)), (.lt (.il 0) (.iv 1))]),
    (.ret (.one (.c (.int .i64 (.il 2)))) [] [(.lt (.il 1000) (.len (.sv 0))), (.eq (.iv 5) (.il 0)), (.not (.bv 3)), (.bv 2), (.not (.bv 0)), (.eq (.iv 7) (.il 0)), (.not (.lt (.il 65535) (.iv 7))), (.not (.lt (.iv 7) (.il 0))), (.not (.lt (.il 65535) (.iv 6))), (.not (.lt (.iv 6) (.il 0))), (.le (.iv 3) (.il 65535)), (.lt (.il 0) (.iv 3)), (.le (.iv 1) (.il 65535)), (.lt (.il 0) (.iv 1))]),
    (.ret (.one (.c (.int .i64 (.il 0)))) [] [(.not (.lt (.il 1000) (.len (.sv 0)))), (.eq (.iv 5) (.il 0)), (.not (.bv 3)), (.bv 2), (.not (.bv 0)), (.eq (.iv 7) (.il 0)), (.not (.lt (.il 65535) (.iv 7))), (.not (.lt (.iv 7) (.il 0))), (.not (.lt (.il 65535) (.iv 6))), (.not (.lt (.iv 6) (.il 0))), (.le (.iv 3) (.il 65535)), (.lt (.il 0) (.iv 3)), (.le (.iv 1) (.il 65535)), (.lt (.il 0) (.iv 1))]),
    (.ret (.one (.c (.int .i64 (.il 4)))) [] [(.bv 3), (.bv 2), (.not (.bv 0)), (.eq (.iv 7) (.il 0)), (.not (.lt (.il 65535) (.iv 7))), (.not (.lt (.iv 7) (.il 0))), (.not (.lt (.il 65535) (.iv 6))), (.not (.lt (.iv 6) (.il 0))), (.le (.iv 3) (.il 65535)), (.lt (.il 0) (.iv 3)), (.le (.iv 1) (.il 65535)), (.lt (.il 0) (.iv 1))]),
    (.ret (.one (.c (.int .i64 (.il 4)))) [] [(.not (.bv 1)), (.not (.eq (.iv 5) (.il 0))), (.not (.bv 2)), (.not (.bv 0)), (.eq (.iv 7) (.il 0)), (.not (.lt (.il 65535) (.iv 7))), (.not (.lt (.iv 7) (.il 0))), (.not (.lt (.il 65535) (.iv 6))), (.not (.lt (.iv 6) (.il 0))), (.le (.iv 3) (.il 65535)), (.lt (.il 0) (.iv 3)), (.le (.iv 1) (.il 65535)), (.lt (.il 0) (.iv 1))]),
    (.ret (.one (.c (.int .i64 (.il 2)))) [] [(.lt (.il 1000) (.len (.sv 0))), (.bv 1), (.not (.eq (.iv 5) (.il 0))), (.not (.bv 2)), (.not (.bv 0)), (.eq (.iv 7) (.il 0)), (.not (.lt (.il 65535) (.iv 7))), (.not (.lt (.iv 7) (.il 0))), (.not (.lt (.il 65535) (.iv 6))), (.not (.lt (.iv 6) (.il 0))), (.le (.iv 3) (.il 65535)), (.lt (.il 0) (.iv 3)), (.le (.iv 1) (.il 65535)), (.lt (.il 0) (.iv 1))]),
    (.ret (.one (.c (.int .i64 (.il 0)))) [] [(.not (.lt (.il 1000) (.len (.sv 0)))), (.bv 1), (.not (.eq (.iv 5) (.il 0))), (.not (.bv 2)), (.not (.bv 0)), (.eq (.iv 7) (.il 0)), (.not (.lt (.il 65535) (.iv 7))), (.not (.lt (.iv 7) (.il 0))), (.not (.lt (.il 65535) (.iv 6))), (.not (.lt (.iv 6) (.il 0))), (.le (.iv 3) (.il 65535)), (.lt (.il 0) (.iv 3)), (.le (.iv 1) (.il 65535)), (.lt (.il 0) (.iv 1))]),
    (.ret (.one (.c (.int .i64 (.il 2)))) [] [(.lt (.il 1000) (.len (.sv 0))), (.eq (.iv 5) (.il 0)), (.not (.bv 2)), (.not (.bv 0)), (.eq (.iv 7) (.il 0)), (.not (.lt (.il 65535) (.iv 7))), (.not (.lt (.iv 7) (.il 0))), (.not (.lt (.il 65535) (.iv 6))), (.not (.lt (.iv 6) (.il 0))), (.le (.iv 3) (.il 65535)), (.lt (.il 0) (.iv 3)), (.le (.iv 1) (.il 65535)), (.lt (.il 0) (.iv 1))]),
    (.ret (.one (.c (.int .i64 (.il 0)))) [] [(.not (.lt (.il 1000) (.len (.sv 0)))), (.eq (.iv 5) (.il 0)), (.not (.bv 2)), (.not (.bv 0)), (.eq (.iv 7) (.il 0)), (.not (.lt (.il 65535) (.iv 7))), (.not (.lt (.iv 7) (.il 0))), (.not (.lt (.il 65535) (.iv 6))), (.not (.lt (.iv 6) (.il 0))), (.le (.iv 3) (.il 65535)), (.lt (.il 0) (.iv 3)), (.le (.iv 1) (.il 65535)), (.lt (.il 0) (.iv 1))]),
    (.ret (.one (.c (.int .i64 (.il 1)))) [] [(.lt (.iv 7) (.il 0)), (.not (.lt (.il 65535) (.iv 6))), (.not (.lt (.iv 6) (.il 0))), (.le (.iv 3) (.il 65535)), (.lt (.il 0) (.iv 3)), (.le (.iv 1) (.il 65535)), (.lt (.il 0) (.iv 1))]),
    (.ret (.one (.c (.int .i64 (.il 1)))) [] [(.lt (.il 65535) (.iv 6)), (.not (.lt (.iv 6) (.il 0))), (.le (.iv 3) (.il 65535)), (.lt (.il 0) (.iv 3)), (.le (.iv 1) (.il 65535)), (.lt (.il 0) (.iv 1))]),
    (.ret (.one (.c (.int .i64 (.il 1)))) [] [(.lt (.iv 6) (.il 0)), (.le (.iv 3) (.il 65535)), (.lt (.il 0) (.iv 3)), (.le (.iv 1) (.il 65535)), (.lt (.il 0) (.iv 1))]),
    (.ret (.one (.c (.int .i64 (.il 1)))) [] [(.not (.le (.iv 3) (.il 65535))), (.lt (.il 0) (.iv 3)), (.le (.iv 1) (.il 65535)), (.lt (.il 0) (.iv 1))]),
    (.ret (.one (.c (.int .i64 (.il 1)))) [] [(.not (.lt (.il 0) (.iv 3))), (.le (.iv 1) (.il 65535)), (.lt (.il 0) (.iv 1))]),
    (.ret (.one (.c (.int .i64 (.il 1)))) [] [(.not (.le (.iv 1) (.il 65535))), (.lt (.il 0) (.iv 1))]),
    (.ret (.one (.c (.int .i64 (.il 1)))) [] [(.not (.lt (.il 0) (.iv 1)))])] := by kernel_rfl
set_option maxRecDepth 100000 in
set_option maxHeartbeats 4000000 in
theorem tcp_Check_any (h : SegIn sa sp da dp sq ak win mss body) (syn hasAck fin rst : Bool) (w : World) (er : Int) (he : tcpErr sp dp ak syn hasAck fin rst win mss body.size = er) :
    Calls Try.prog 21 #[segV sa sp da dp sq ak syn hasAck fin rst win mss body] w fun e w' => e = .returned (.int .i64 er) ∧ Below w.heap.size w w' := by
  refine (calls_sm (B := ⟨segEnv sa sp da dp sq ak syn hasAck fin rst win mss body, fun _ => False, w, fun _ => 0, 0⟩) (sp := []) (env_good _ _ _ _) (by
    intro q hq
    cases hq) 10 400 Try.func21 rfl [seg] chkSt _ 0 rfl tcp_Check_run (Md.start (chkSt_ok h syn hasAck fin rst)) (R := fun v w' => v = .int .i64 er ∧ Below w.heap.size w w') ?_ rfl).mono ?_
  · refine ⟨?_, ?_, ?_, ?_, ?_, ?_, ?_, ?_, ?_, ?_, ?_, ?_, ?_, ?_, ?_, ?_, ?_, ?_, ?_, ?_, ?_, ?_, ?_, ?_, ?_, ?_, ?_, ?_, ?_, ?_, ?_, ?_, ?_, ?_, trivial⟩
    all_goals
      intro hpc β w' hH
      simp only [pcs, den, segEnv, mkEnv, dI, dB, dS, List.getD_cons_zero, List.getD_cons_succ, decide_eq_true_eq, Bool.not_eq_true', decide_eq_false_iff_not, beq_iff_eq, beq_eq_false_iff_ne, and_true] at hpc
      refine ⟨?_, Sy.Only.below_all hH.only⟩
      refine congrArg (Value.int .i64) ?_
      simp only [den, dI]
      have k1 := b2_bd syn
      have k2 := b2_bd hasAck
      have k3 := b2_bd fin
      have k4 := b2_bd rst
      have k5 := h.f0
      simp only [hpc, b2_true, b2_false, tcpErr, or_true, true_or, or_false, false_or, and_true, true_and, and_false, false_and, if_true, if_false, not_true_eq_false, not_false_eq_true, Int.one_ne_zero, Int.zero_ne_one, show ¬ ((0 : Int) = 1) from by decide, show ¬ ((1 : Int) = 0) from by decide] at he
      (repeat' split at he) <;> omega
  · rintro e w' ⟨v, rfl, rfl, hb⟩
    exact ⟨rfl, hb⟩
set_option maxRecDepth 100000 in
theorem ref_TcpCheck_run : smR Try.prog Try.f22 0 (run Try.prog [] 10 400 0 (.code (bodyOf Try.f22)) (enterS Try.f22 [seg] chkSt)) = some
    [(.ret (.one (.c (.int .i64 (.il 1)))) [] [(.lt (.il 65535) (.iv 1)), (.not (.lt (.iv 1) (.il 1)))]),
    (.ret (.one (.c (.int .i64 (.il 1)))) [] [(.lt (.il 65535) (.iv 3)), (.not (.lt (.iv 3) (.il 1))), (.not (.lt (.il 65535) (.iv 1))), (.not (.lt (.iv 1) (.il 1)))]),
    (.ret (.one (.c (.int .i64 (.il 1)))) [] [(.lt (.il 65535) (.iv 7)), (.not (.lt (.iv 7) (.il 0))), (.not (.lt (.il 65535) (.iv 6))), (.not (.lt (.iv 6) (.il 0))), (.not (.lt (.il 65535) (.iv 3))), (.not (.lt (.iv 3) (.il 1))), (.not (.lt (.il 65535) (.iv 1))), (.not (.lt (.iv 1) (.il 1)))]),
    (.ret (.one (.c (.int .i64 (.il 4)))) [] [(.lt (.il 0) (.iv 5)), (.not (.bv 1)), (.not (.bv 3)), (.bv 2), (.not (.lt (.il 0) (.iv 7))), (.not (.bv 0)), (.not (.lt (.il 65535) (.iv 7))), (.not (.lt (.iv 7) (.il 0))), (.not (.lt (.il 65535) (.iv 6))), (.not (.lt (.iv 6) (.il 0))), (.not (.lt (.il 65535) (.iv 3))), (.not (.lt (.iv 3) (.il 1))), (.not (.lt (.il 65535) (.iv 1))), (.not (.lt (.iv 1) (.il 1)))]),
    (.ret (.one (.c (.int .i64 (.il 2)))) [] [(.lt (.il 1000) (.len (.sv 0))), (.not (.lt (.il 0) (.iv 5))), (.not (.bv 1)), (.not (.bv 3)), (.bv 2), (.not (.lt (.il 0) (.iv 7))), (.not (.bv 0)), (.not (.lt (.il 65535) (.iv 7))), (.not (.lt (.iv 7) (.il 0))), (.not (.lt (.il 65535) (.iv 6))), (.not (.lt (.iv 6) (.il 0))), (.not (.lt (.il 65535) (.iv 3))), (.not (.lt (.iv 3) (.il 1))), (.not (.lt (.il 65535) (.iv 1))), (.not (.lt (.iv 1) (.il 1)))]),
    (.ret (.one (.c (.int .i64 (.il 0)))) [] [(.not (.lt (.il 1000) (.len (.sv 0)))), (.not (.lt (.il 0) (.iv 5))), (.not (.bv 1)), (.not (.bv 3)), (.bv 2), (.not (.lt (.il 0) (.iv 7))), (.not (.bv 0)), (.not (.lt (.il 65535) (.iv 7))), (.not (.lt (.iv 7) (.il 0))), (.not (.lt (.il 65535) (.iv 6))), (.not (.lt (.iv 6) (.il 0))), (.not (.lt (.il 65535) (.iv 3))), (.not (.lt (.iv 3) (.il 1))), (.not (.lt (.il 65535) (.iv 1))), (.not (.lt (.iv 1) (.il 1)))]),
    (.ret (.one (.c (.int .i64 (.il 2)))) [] [(.lt (.il 1000) (.len (.sv 0))), (.bv 1), (.not (.bv 3)), (.bv 2), (.not (.lt (.il 0) (.iv 7))), (.not (.bv 0)), (.not (.lt (.il 65535) (.iv 7))), (.not (.lt (.iv 7) (.il 0))), (.not (.lt (.il 65535) (.iv 6))), (.not (.lt (.iv 6) (.il 0))), (.not (.lt (.il 65535) (.iv 3))), (.not (.lt (.iv 3) (.il 1))), (.not (.lt (.il 65535) (.iv 1))), (.not (.lt (.iv 1) (.il 1)))]),
    (.ret (.one (.c (.int .i64 (.il 0)))) [] [(.not (.lt (.il 1000) (.len (.sv 0)))), (.bv 1), (.not (.bv 3)), (.bv 2), (.not (.lt (.il 0) (.iv 7))), (.not (.bv 0)), (.not (.lt (.il 65535) (.iv 7))), (.not (.lt (.iv 7) (.il 0))), (.not (.lt (.il 65535) (.iv 6))), (.not (.lt (.iv 6) (.il 0))), (.not (.lt (.il 65535) (.iv 3))), (.not (.lt (.iv 3) (.il 1))), (.not (.lt (.il 65535) (.iv 1))), (.not (.lt (.iv 1) (.il 1)))]),
    (.ret (.one (.c (.int .i64 (.il 4)))) [] [(.bv 3), (.bv 2), (.not (.lt (.il 0) (.iv 7))), (.not (.bv 0)), (.not (.lt (.il 65535) (.iv 7))), (.not (.lt (.iv 7) (.il 0))), (.not (.lt (.il 65535) (.iv 6))), (.not (.lt (.iv 6) (.il 0))), (.not (.lt (.il 65535) (.iv 3))), (.not (.lt (.iv 3) (.il 1))), (.not (.lt (.il 65535) (.iv 1))), (.not (.lt (.iv 1) (.il 1)))]),
    (.ret (.one (.c (.int .i64 (.il 4)))) [] [(.lt (.il 0) (.iv 5)), (.not (.bv 1)), (.not (.bv 2)), (.not (.lt (.il 0) (.iv 7))), (.not (.bv 0)), (.not (.lt (.il 65535) (.iv 7))), (.not (.lt (.iv 7) (.il 0))), (.not (.lt (.il 65535) (.iv 6))), (.not (.lt (.iv 6) (.il 0))), (.not (.lt (.il 65535) (.iv 3))), (.not (.lt (.iv 3) (.il 1))), (.not (.lt (.il 65535) (.iv 1))), (.not (.lt (.iv 1) (.il 1)))]),
    (.ret (.one (.c (.int .i64 (.il 2)))) [] [(.lt (.il 1000) (.len (.sv 0))), (.not (.lt (.il 0) (.iv 5))), (.not (.bv 1)), (.not (.bv 2)), (.not (.lt (.il 0) (.iv 7))), (.not (.bv 0)), (.not (.lt (.il 65535) (.iv 7))), (.not (.lt (.iv 7) (.il 0))), (.not (.lt (.il 65535) (.iv 6))), (.not (.lt (.iv 6) (.il 0))), (.not (.lt (.il 65535) (.iv 3))), (.not (.lt (.iv 3) (.il 1))), (.not (.lt (.il 65535) (.iv 1))), (.not (.lt (.iv 1) (.il 1)))]),
    (.ret (.one (.c (.int .i64 (.il 0)))) [] [(.not (.lt (.il 1000) (.len (.sv 0)))), (.not (.lt (.il 0) (.iv 5))), (.not (.bv 1)), (.not (.bv 2)), (.not (.lt (.il 0) (.iv 7))), (.not (.bv 0)), (.not (.lt (.il 65535) (.iv 7))), (.not (.lt (.iv 7) (.il 0))), (.not (.lt (.il 65535) (.iv 6))), (.not (.lt (.iv 6) (.il 0))), (.not (.lt (.il 65535) (.iv 3))), (.not (.lt (.iv 3) (.il 1))), (.not (.lt (.il 65535) (.iv 1))), (.not (.lt (.iv 1) (.il 1)))]),
    (.ret (.one (.c (.int .i64 (.il 2)))) [] [(.lt (.il 1000) (.len (.sv 0))), (.bv 1), (.not (.bv 2)), (.not (.lt (.il 0) (.iv 7))), (.not (.bv 0)), (.not (.lt (.il 65535) (.iv 7))), (.not (.lt (.iv 7) (.il 0))), (.not (.lt (.il 65535) (.iv 6))), (.not (.lt (.iv 6) (.il 0))), (.not (.lt (.il 65535) (.iv 3))), (.not (.lt (.iv 3) (.il 1))), (.not (.lt (.il 65535) (.iv 1))), (.not (.lt (.iv 1) (.il 1)))]),
    (.ret (.one (.c (.int .i64 (.il 0)))) [] [(.not (.lt (.il 1000) (.len (.sv 0)))), (.bv 1), (.not (.bv 2)), (.not (.lt (.il 0) (.iv 7))), (.not (.bv 0)), (.not (.lt (.il 65535) (.iv 7))), (.not (.lt (.iv 7) (.il 0))), (.not (.lt (.il 65535) (.iv 6))), (.not (.lt (.iv 6) (.il 0))), (.not (.lt (.il 65535) (.iv 3))), (.not (.lt (.iv 3) (.il 1))), (.not (.lt (.il 65535) (.iv 1))), (.not (.lt (.iv 1) (.il 1)))]),
    (.ret (.one (.c (.int .i64 (.il 4)))) [] [(.lt (.il 0) (.iv 7)), (.not (.bv 0)), (.not (.lt (.il 65535) (.iv 7))), (.not (.lt (.iv 7) (.il 0))), (.not (.lt (.il 65535) (.iv 6))), (.not (.lt (.iv 6) (.il 0))), (.not (.lt (.il 65535) (.iv 3))), (.not (.lt (.iv 3) (.il 1))), (.not (.lt (.il 65535) (.iv 1))), (.not (.lt (.iv 1) (.il 1)))]),
    (.ret (.one (.c (.int .i64 (.il 4)))) [] [(.lt (.il 0) (.iv 5)), (.not (.bv 1)), (.not (.bv 3)), (.not (.bv 2)), (.bv 0), (.not (.lt (.il 65535) (.iv 7))), (.not (.lt (.iv 7) (.il 0))), (.not (.lt (.il 65535) (.iv 6))), (.not (.lt (.iv 6) (.il 0))), (.not (.lt (.il 65535) (.iv 3))), (.not (.lt (.iv 3) (.il 1))), (.not (.lt (.il 65535) (.iv 1))), (.not (.lt (.iv 1) (.il 1)))]),
    (.ret (.one (.c (.int .i64 (.il 2)))) [] [(.lt (.il 1000) (.len (.sv 0))), (.not (.lt (.il 0) (.iv 5))), (.not (.bv 1)), (.not (.bv 3)), (.not (.bv 2)), (.bv 0), (.not (.lt (.il 65535) (.iv 7))), (.not (.lt (.iv 7) (.il 0))), (.not (.lt (.il 65535) (.iv 6))), (.not (.lt (.iv 6) (.il 0))), (.not (.lt (.il 65535) (.iv 3))), (.not (.lt (.iv 3) (.il 1))), (.not (.lt (.il 65535) (.iv 1))), (.not (.lt (.iv 1) (.il 1)))]),
    (.ret (.one (.c (.int .i64 (.il 0)))) [] [(.not (.lt (.il 1000) (.len (.sv 0)))), (.not (.lt (.il 0) (.iv 5))), (.not (.bv 1)), (.not (.bv 3)), (.not (.bv 2)), (.bv 0), (.not (.lt (.il 65535) (.iv 7))), (.not (.lt (.iv 7) (.il 0))), (.not (.lt (.il 65535) (.iv 6))), (.not (.lt (.iv 6) (.il 0))), (.not (.lt (.il 65535) (.iv 3))), (.not (.lt (.iv 3) (.il 1))), (.not (.lt (.il 65535) (.iv 1))), (.not (.lt (.iv 1) (.il 1)))]),
    (.ret (.one (.c (.int .i64 (.il 2)))) [] [(.lt (.il 1000) (.len (.sv 0))), (.bv 1), (.not (.bv 3)), (.not (.bv 2)), (.bv 0), (.not (.lt (.il 65535) (.iv 7))), (.not (.lt (.iv 7) (.il 0))), (.not (.lt (.il 65535) (.iv 6))), (.not (.lt (.iv 6) (.il 0))), (.not (.lt (.il 65535) (.iv 3))), (.not (.lt (.iv 3) (.il 1))), (.not (.lt (.il 65535) (.iv 1))), (.not (.lt (.iv 1) (.il 1)))]),
    (.ret (.one (.c (.int .i64 (.il 0)))) [] [(.not (.lt (.il 1000) (.len (.sv 0)))), (.bv 1), (.not (.bv 3)), (.not (.bv 2)), (.bv 0), (.not (.lt (.il 65535) (.iv 7))), (.not (.lt (.iv 7) (.il 0))), (.not (.lt (.il 65535) (.iv 6))), (.not (.lt (.iv 6) (.il 0))), (.not (.lt (.il 65535) (.iv 3))), (.not (.lt (.iv 3) (.il 1))), (.not (.lt (.il 65535) (.iv 1))), (.not (.lt (.iv 1) (.il 1)))]),
    (.ret (.one (.c (.int .i64 (.il 4)))) [] [(.bv 3), (.not (.bv 2)), (.bv 0), (.not (.lt (.il 65535) (.iv 7))), (.not (.lt (.iv 7) (.il 0))), (.not (.lt (.il 65535) (.iv 6))), (.not (.lt (.iv 6) (.il 0))), (.not (.lt (.il 65535) (.iv 3))), (.not (.lt (.iv 3) (.il 1))), (.not (.lt (.il 65535) (.iv 1))), (.not (.lt (.iv 1) (.il 1)))]),
    (.ret (.one (.c (.int .i64 (.il 4)))) [] [(.bv 2), (.bv 0), (.not (.lt (.il 65535) (.iv 7))), (.not (.lt (.iv 7) (.il 0))), (.not (.lt (.il 65535) (.iv 6))), (.not (.lt (.iv 6) (.il 0))), (.not (.lt (.il 65535) (.iv 3))), (.not (.lt (.iv 3) (.il 1))), (.not (.lt (.il 65535) (.iv 1))), (.not (.lt (.iv 1) (.il 1)))]),
    (.ret (.one (.c (.int .i64 (.il 1)))) [] [(.lt (.iv 7) (.il 0)), (.not (.lt (.il 65535) (.iv 6))), (.not (.lt (.iv 6) (.il 0))), (.not (.lt (.il 65535) (.iv 3))), (.not (.lt (.iv 3) (.il 1))), (.not (.lt (.il 65535) (.iv 1))), (.not (.lt (.iv 1) (.il 1)))]),
    (.ret (.one (.c (.int .i64 (.il 1)))) [] [(.lt (.il 65535) (.iv 6)), (.not (.lt (.iv 6) (.il 0))), (.not (.lt (.il 65535) (.iv 3))), (.not (.lt (.iv 3) (.il 1))), (.not (.lt (.il 65535) (.iv 1))), (.not (.lt (.iv 1) (.il 1)))]),
    (.ret (.one (.c (.int .i64 (.il 1)))) [] [(.lt (.iv 6) (.il 0)), (.not (.lt (.il 65535) (.iv 3))), (.not (.lt (.iv 3) (.il 1))), (.not (.lt (.il 65535) (.iv 1))), (.not (.lt (.iv 1) (.il 1)))]),
    (.ret (.one (.c (.int .i64 (.il 1)))) [] [(.lt (.iv 3) (.il 1)), (.not (.lt (.il 65535) (.iv 1))), (.not (.lt (.iv 1) (.il 1)))]),
    (.ret (.one (.c (.int .i64 (.il 1)))) [] [(.lt (.iv 1) (.il 1))])] := by kernel_rfl
set_option maxRecDepth 100000 in
set_option maxHeartbeats 4000000 in
theorem ref_TcpCheck_any (h : SegIn sa sp da dp sq ak win mss body) (syn hasAck fin rst : Bool) (w : World) (er : Int) (he : tcpErr sp dp ak syn hasAck fin rst win mss body.size = er) :
    Calls Try.prog 22 #[segV sa sp da dp sq ak syn hasAck fin rst win mss body] w fun e w' => e = .returned (.int .i64 er) ∧ Below w.heap.size w w' := by
  refine (calls_sm (B := ⟨segEnv sa sp da dp sq ak syn hasAck fin rst win mss body, fun _ => False, w, fun _ => 0, 0⟩) (sp := []) (env_good _ _ _ _) (by
    intro q hq
    cases hq) 10 400 Try.func22 rfl [seg] chkSt _ 0 rfl ref_TcpCheck_run (Md.start (chkSt_ok h syn hasAck fin rst)) (R := fun v w' => v = .int .i64 er ∧ Below w.heap.size w w') ?_ rfl).mono ?_
  · refine ⟨?_, ?_, ?_, ?_, ?_, ?_, ?_, ?_, ?_, ?_, ?_, ?_, ?_, ?_, ?_, ?_, ?_, ?_, ?_, ?_, ?_, ?_, ?_, ?_, ?_, ?_, ?_, trivial⟩
    all_goals
      intro hpc β w' hH
      simp only [pcs, den, segEnv, mkEnv, dI, dB, dS, List.getD_cons_zero, List.getD_cons_succ, decide_eq_true_eq, Bool.not_eq_true', decide_eq_false_iff_not, beq_iff_eq, beq_eq_false_iff_ne, and_true] at hpc
      refine ⟨?_, Sy.Only.below_all hH.only⟩
      refine congrArg (Value.int .i64) ?_
      simp only [den, dI]
      have k1 := b2_bd syn
      have k2 := b2_bd hasAck
      have k3 := b2_bd fin
      have k4 := b2_bd rst
      have k5 := h.f0
      simp only [hpc, b2_true, b2_false, tcpErr, or_true, true_or, or_false, false_or, and_true, true_and, and_false, false_and, if_true, if_false, not_true_eq_false, not_false_eq_true, Int.one_ne_zero, Int.zero_ne_one, show ¬ ((0 : Int) = 1) from by decide, show ¬ ((1 : Int) = 0) from by decide] at he
      (repeat' split at he) <;> omega
  · rintro e w' ⟨v, rfl, rfl, hb⟩
    exact ⟨rfl, hb⟩
set_option maxRecDepth 100000 in
theorem tcp_flags_run : smR Try.prog Try.f132 0 (run Try.prog [] 10 400 0 (.code (bodyOf Try.f132)) (enterS Try.f132 [seg] chkSt)) = some
    [(.ret (.one (.c (.int .u8 (.il 23)))) [] [(.bv 1), (.bv 3), (.bv 0), (.bv 2)]),
    (.ret (.one (.c (.int .u8 (.il 7)))) [] [(.not (.bv 1)), (.bv 3), (.bv 0), (.bv 2)]),
    (.ret (.one (.c (.int .u8 (.il 19)))) [] [(.bv 1), (.not (.bv 3)), (.bv 0), (.bv 2)]),
    (.ret (.one (.c (.int .u8 (.il 3)))) [] [(.not (.bv 1)), (.not (.bv 3)), (.bv 0), (.bv 2)]),
    (.ret (.one (.c (.int .u8 (.il 21)))) [] [(.bv 1), (.bv 3), (.not (.bv 0)), (.bv 2)]),
    (.ret (.one (.c (.int .u8 (.il 5)))) [] [(.not (.bv 1)), (.bv 3), (.not (.bv 0)), (.bv 2)]),
    (.ret (.one (.c (.int .u8 (.il 17)))) [] [(.bv 1), (.not (.bv 3)), (.not (.bv 0)), (.bv 2)]),
    (.ret (.one (.c (.int .u8 (.il 1)))) [] [(.not (.bv 1)), (.not (.bv 3)), (.not (.bv 0)), (.bv 2)]),
    (.ret (.one (.c (.int .u8 (.il 22)))) [] [(.bv 1), (.bv 3), (.bv 0), (.not (.bv 2))]),
    (.ret (.one (.c (.int .u8 (.il 6)))) [] [(.not (.bv 1)), (.bv 3), (.bv 0), (.not (.bv 2))]),
    (.ret (.one (.c (.int .u8 (.il 18)))) [] [(.bv 1), (.not (.bv 3)), (.bv 0), (.not (.bv 2))]),
    (.ret (.one (.c (.int .u8 (.il 2)))) [] [(.not (.bv 1)), (.not (.bv 3)), (.bv 0), (.not (.bv 2))]),
    (.ret (.one (.c (.int .u8 (.il 20)))) [] [(.bv 1), (.bv 3), (.not (.bv 0)), (.not (.bv 2))]),
    (.ret (.one (.c (.int .u8 (.il 4)))) [] [(.not (.bv 1)), (.bv 3), (.not (.bv 0)), (.not (.bv 2))]),
    (.ret (.one (.c (.int .u8 (.il 16)))) [] [(.bv 1), (.not (.bv 3)), (.not (.bv 0)), (.not (.bv 2))]),
    (.ret (.one (.c (.int .u8 (.il 0)))) [] [(.not (.bv 1)), (.not (.bv 3)), (.not (.bv 0)), (.not (.bv 2))])] := by kernel_rfl
set_option maxRecDepth 100000 in
set_option maxHeartbeats 4000000 in
theorem tcp_flags_any (h : SegIn sa sp da dp sq ak win mss body) (syn hasAck fin rst : Bool) (w : World) :
    Calls Try.prog 132 #[segV sa sp da dp sq ak syn hasAck fin rst win mss body] w fun e w' => e = .returned (.int .u8 (b2 fin + 2 * b2 syn + 4 * b2 rst + 16 * b2 hasAck)) ∧ Below w.heap.size w w' := by
  refine (calls_sm (B := ⟨segEnv sa sp da dp sq ak syn hasAck fin rst win mss body, fun _ => False, w, fun _ => 0, 0⟩) (sp := []) (env_good _ _ _ _) (by
    intro q hq
    cases hq) 10 400 Try.func132 rfl [seg] chkSt _ 0 rfl tcp_flags_run (Md.start (chkSt_ok h syn hasAck fin rst)) (R := fun v w' => v = .int .u8 (b2 fin + 2 * b2 syn + 4 * b2 rst + 16 * b2 hasAck) ∧ Below w.heap.size w w') ?_ rfl).mono ?_
  · refine ⟨?_, ?_, ?_, ?_, ?_, ?_, ?_, ?_, ?_, ?_, ?_, ?_, ?_, ?_, ?_, ?_, trivial⟩
    all_goals
      intro hpc β w' hH
      simp only [pcs, den, segEnv, mkEnv, dI, dB, dS, List.getD_cons_zero, List.getD_cons_succ, decide_eq_true_eq, Bool.not_eq_true', decide_eq_false_iff_not, beq_iff_eq, beq_eq_false_iff_ne, and_true] at hpc
      refine ⟨?_, Sy.Only.below_all hH.only⟩
      refine congrArg (Value.int .u8) ?_
      simp only [den, dI]
      simp only [hpc, b2_true, b2_false]
      omega
  · rintro e w' ⟨v, rfl, rfl, hb⟩
    exact ⟨rfl, hb⟩
end
end Go.Proofs.Ythjigajielhkfaa
