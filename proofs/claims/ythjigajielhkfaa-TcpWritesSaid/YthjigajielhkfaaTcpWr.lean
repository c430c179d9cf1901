/- The program's and the reference's writing of segments that can be written: by runs with letters. Printed by gen_tcpwr.py. -/
import Derived.Test.YthjigajielhkfaaTcpChk
namespace Go.Proofs.Ythjigajielhkfaa
open Go.RowKit Sy
set_option linter.unusedVariables false
set_option linter.unusedSimpArgs false

def flT : Tm := (.add (.add (.add (.ite (.bv 2) (.il 1) (.il 0)) (.mul (.il 2) (.ite (.bv 0) (.il 1) (.il 0)))) (.mul (.il 4) (.ite (.bv 3) (.il 1) (.il 0)))) (.mul (.il 16) (.ite (.bv 1) (.il 1) (.il 0))))
def textT1 : Tm := (.app (.chr (.dv (.iv 1) (.il 256))) (.app (.chr (.md (.iv 1) (.il 256))) (.app (.chr (.dv (.iv 3) (.il 256))) (.app (.chr (.md (.iv 3) (.il 256))) (.app (.chr (.dv (.iv 4) (.il 16777216))) (.app (.chr (.md (.dv (.iv 4) (.il 65536)) (.il 256))) (.app (.chr (.md (.dv (.iv 4) (.il 256)) (.il 256))) (.app (.chr (.md (.iv 4) (.il 256))) (.app (.chr (.dv (.iv 5) (.il 16777216))) (.app (.chr (.md (.dv (.iv 5) (.il 65536)) (.il 256))) (.app (.chr (.md (.dv (.iv 5) (.il 256)) (.il 256))) (.app (.chr (.md (.iv 5) (.il 256))) (.app (.sl [96]) (.app (.chr (.add (.add (.add (.ite (.bv 2) (.il 1) (.il 0)) (.mul (.il 2) (.ite (.bv 0) (.il 1) (.il 0)))) (.mul (.il 4) (.ite (.bv 3) (.il 1) (.il 0)))) (.mul (.il 16) (.ite (.bv 1) (.il 1) (.il 0))))) (.app (.chr (.dv (.iv 6) (.il 256))) (.app (.chr (.md (.iv 6) (.il 256))) (.app (.chr (.dv (.sub (.il 65535) (.ap 1 (.app (.chr (.dv (.iv 0) (.il 16777216))) (.app (.chr (.md (.dv (.iv 0) (.il 65536)) (.il 256))) (.app (.chr (.md (.dv (.iv 0) (.il 256)) (.il 256))) (.app (.chr (.md (.iv 0) (.il 256))) (.app (.chr (.dv (.iv 2) (.il 16777216))) (.app (.chr (.md (.dv (.iv 2) (.il 65536)) (.il 256))) (.app (.chr (.md (.dv (.iv 2) (.il 256)) (.il 256))) (.app (.chr (.md (.iv 2) (.il 256))) (.app (.sl [0, 6]) (.app (.chr (.dv (.add (.len (.sv 0)) (.il 24)) (.il 256))) (.app (.chr (.md (.add (.len (.sv 0)) (.il 24)) (.il 256))) (.app (.chr (.dv (.iv 1) (.il 256))) (.app (.chr (.md (.iv 1) (.il 256))) (.app (.chr (.dv (.iv 3) (.il 256))) (.app (.chr (.md (.iv 3) (.il 256))) (.app (.chr (.dv (.iv 4) (.il 16777216))) (.app (.chr (.md (.dv (.iv 4) (.il 65536)) (.il 256))) (.app (.chr (.md (.dv (.iv 4) (.il 256)) (.il 256))) (.app (.chr (.md (.iv 4) (.il 256))) (.app (.chr (.dv (.iv 5) (.il 16777216))) (.app (.chr (.md (.dv (.iv 5) (.il 65536)) (.il 256))) (.app (.chr (.md (.dv (.iv 5) (.il 256)) (.il 256))) (.app (.chr (.md (.iv 5) (.il 256))) (.app (.sl [96]) (.app (.chr (.add (.add (.add (.ite (.bv 2) (.il 1) (.il 0)) (.mul (.il 2) (.ite (.bv 0) (.il 1) (.il 0)))) (.mul (.il 4) (.ite (.bv 3) (.il 1) (.il 0)))) (.mul (.il 16) (.ite (.bv 1) (.il 1) (.il 0))))) (.app (.chr (.dv (.iv 6) (.il 256))) (.app (.chr (.md (.iv 6) (.il 256))) (.app (.sl [2, 4]) (.app (.chr (.dv (.iv 7) (.il 256))) (.app (.chr (.md (.iv 7) (.il 256))) (.sv 0))))))))))))))))))))))))))))))) (.il 0) (.il 0))) (.il 256))) (.app (.chr (.md (.sub (.il 65535) (.ap 1 (.app (.chr (.dv (.iv 0) (.il 16777216))) (.app (.chr (.md (.dv (.iv 0) (.il 65536)) (.il 256))) (.app (.chr (.md (.dv (.iv 0) (.il 256)) (.il 256))) (.app (.chr (.md (.iv 0) (.il 256))) (.app (.chr (.dv (.iv 2) (.il 16777216))) (.app (.chr (.md (.dv (.iv 2) (.il 65536)) (.il 256))) (.app (.chr (.md (.dv (.iv 2) (.il 256)) (.il 256))) (.app (.chr (.md (.iv 2) (.il 256))) (.app (.sl [0, 6]) (.app (.chr (.dv (.add (.len (.sv 0)) (.il 24)) (.il 256))) (.app (.chr (.md (.add (.len (.sv 0)) (.il 24)) (.il 256))) (.app (.chr (.dv (.iv 1) (.il 256))) (.app (.chr (.md (.iv 1) (.il 256))) (.app (.chr (.dv (.iv 3) (.il 256))) (.app (.chr (.md (.iv 3) (.il 256))) (.app (.chr (.dv (.iv 4) (.il 16777216))) (.app (.chr (.md (.dv (.iv 4) (.il 65536)) (.il 256))) (.app (.chr (.md (.dv (.iv 4) (.il 256)) (.il 256))) (.app (.chr (.md (.iv 4) (.il 256))) (.app (.chr (.dv (.iv 5) (.il 16777216))) (.app (.chr (.md (.dv (.iv 5) (.il 65536)) (.il 256))) (.app (.chr (.md (.dv (.iv 5) (.il 256)) (.il 256))) (.app (.chr (.md (.iv 5) (.il 256))) (.app (.sl [96]) (.app (.chr (.add (.add (.add (.ite (.bv 2) (.il 1) (.il 0)) (.mul (.il 2) (.ite (.bv 0) (.il 1) (.il 0)))) (.mul (.il 4) (.ite (.bv 3) (.il 1) (.il 0)))) (.mul (.il 16) (.ite (.bv 1) (.il 1) (.il 0))))) (.app (.chr (.dv (.iv 6) (.il 256))) (.app (.chr (.md (.iv 6) (.il 256))) (.app (.sl [2, 4]) (.app (.chr (.dv (.iv 7) (.il 256))) (.app (.chr (.md (.iv 7) (.il 256))) (.sv 0))))))))))))))))))))))))))))))) (.il 0) (.il 0))) (.il 256))) (.app (.sl [0, 0, 2, 4]) (.app (.chr (.dv (.iv 7) (.il 256))) (.app (.chr (.md (.iv 7) (.il 256))) (.sv 0))))))))))))))))))))))
def textT0 : Tm := (.app (.chr (.dv (.iv 1) (.il 256))) (.app (.chr (.md (.iv 1) (.il 256))) (.app (.chr (.dv (.iv 3) (.il 256))) (.app (.chr (.md (.iv 3) (.il 256))) (.app (.chr (.dv (.iv 4) (.il 16777216))) (.app (.chr (.md (.dv (.iv 4) (.il 65536)) (.il 256))) (.app (.chr (.md (.dv (.iv 4) (.il 256)) (.il 256))) (.app (.chr (.md (.iv 4) (.il 256))) (.app (.chr (.dv (.iv 5) (.il 16777216))) (.app (.chr (.md (.dv (.iv 5) (.il 65536)) (.il 256))) (.app (.chr (.md (.dv (.iv 5) (.il 256)) (.il 256))) (.app (.chr (.md (.iv 5) (.il 256))) (.app (.sl [80]) (.app (.chr (.add (.add (.add (.ite (.bv 2) (.il 1) (.il 0)) (.mul (.il 2) (.ite (.bv 0) (.il 1) (.il 0)))) (.mul (.il 4) (.ite (.bv 3) (.il 1) (.il 0)))) (.mul (.il 16) (.ite (.bv 1) (.il 1) (.il 0))))) (.app (.chr (.dv (.iv 6) (.il 256))) (.app (.chr (.md (.iv 6) (.il 256))) (.app (.chr (.dv (.sub (.il 65535) (.ap 1 (.app (.chr (.dv (.iv 0) (.il 16777216))) (.app (.chr (.md (.dv (.iv 0) (.il 65536)) (.il 256))) (.app (.chr (.md (.dv (.iv 0) (.il 256)) (.il 256))) (.app (.chr (.md (.iv 0) (.il 256))) (.app (.chr (.dv (.iv 2) (.il 16777216))) (.app (.chr (.md (.dv (.iv 2) (.il 65536)) (.il 256))) (.app (.chr (.md (.dv (.iv 2) (.il 256)) (.il 256))) (.app (.chr (.md (.iv 2) (.il 256))) (.app (.sl [0, 6]) (.app (.chr (.dv (.add (.len (.sv 0)) (.il 20)) (.il 256))) (.app (.chr (.md (.add (.len (.sv 0)) (.il 20)) (.il 256))) (.app (.chr (.dv (.iv 1) (.il 256))) (.app (.chr (.md (.iv 1) (.il 256))) (.app (.chr (.dv (.iv 3) (.il 256))) (.app (.chr (.md (.iv 3) (.il 256))) (.app (.chr (.dv (.iv 4) (.il 16777216))) (.app (.chr (.md (.dv (.iv 4) (.il 65536)) (.il 256))) (.app (.chr (.md (.dv (.iv 4) (.il 256)) (.il 256))) (.app (.chr (.md (.iv 4) (.il 256))) (.app (.chr (.dv (.iv 5) (.il 16777216))) (.app (.chr (.md (.dv (.iv 5) (.il 65536)) (.il 256))) (.app (.chr (.md (.dv (.iv 5) (.il 256)) (.il 256))) (.app (.chr (.md (.iv 5) (.il 256))) (.app (.sl [80]) (.app (.chr (.add (.add (.add (.ite (.bv 2) (.il 1) (.il 0)) (.mul (.il 2) (.ite (.bv 0) (.il 1) (.il 0)))) (.mul (.il 4) (.ite (.bv 3) (.il 1) (.il 0)))) (.mul (.il 16) (.ite (.bv 1) (.il 1) (.il 0))))) (.app (.chr (.dv (.iv 6) (.il 256))) (.app (.chr (.md (.iv 6) (.il 256))) (.sv 0)))))))))))))))))))))))))))) (.il 0) (.il 0))) (.il 256))) (.app (.chr (.md (.sub (.il 65535) (.ap 1 (.app (.chr (.dv (.iv 0) (.il 16777216))) (.app (.chr (.md (.dv (.iv 0) (.il 65536)) (.il 256))) (.app (.chr (.md (.dv (.iv 0) (.il 256)) (.il 256))) (.app (.chr (.md (.iv 0) (.il 256))) (.app (.chr (.dv (.iv 2) (.il 16777216))) (.app (.chr (.md (.dv (.iv 2) (.il 65536)) (.il 256))) (.app (.chr (.md (.dv (.iv 2) (.il 256)) (.il 256))) (.app (.chr (.md (.iv 2) (.il 256))) (.app (.sl [0, 6]) (.app (.chr (.dv (.add (.len (.sv 0)) (.il 20)) (.il 256))) (.app (.chr (.md (.add (.len (.sv 0)) (.il 20)) (.il 256))) (.app (.chr (.dv (.iv 1) (.il 256))) (.app (.chr (.md (.iv 1) (.il 256))) (.app (.chr (.dv (.iv 3) (.il 256))) (.app (.chr (.md (.iv 3) (.il 256))) (.app (.chr (.dv (.iv 4) (.il 16777216))) (.app (.chr (.md (.dv (.iv 4) (.il 65536)) (.il 256))) (.app (.chr (.md (.dv (.iv 4) (.il 256)) (.il 256))) (.app (.chr (.md (.iv 4) (.il 256))) (.app (.chr (.dv (.iv 5) (.il 16777216))) (.app (.chr (.md (.dv (.iv 5) (.il 65536)) (.il 256))) (.app (.chr (.md (.dv (.iv 5) (.il 256)) (.il 256))) (.app (.chr (.md (.iv 5) (.il 256))) (.app (.sl [80]) (.app (.chr (.add (.add (.add (.ite (.bv 2) (.il 1) (.il 0)) (.mul (.il 2) (.ite (.bv 0) (.il 1) (.il 0)))) (.mul (.il 4) (.ite (.bv 3) (.il 1) (.il 0)))) (.mul (.il 16) (.ite (.bv 1) (.il 1) (.il 0))))) (.app (.chr (.dv (.iv 6) (.il 256))) (.app (.chr (.md (.iv 6) (.il 256))) (.sv 0)))))))))))))))))))))))))))) (.il 0) (.il 0))) (.il 256))) (.app (.sl [0, 0]) (.sv 0))))))))))))))))))))
def wrSt : Sy.St := ⟨[], [], ⟨[u32Bd 0, ⟨.iv 1, 1, 65535⟩, u32Bd 2, ⟨.iv 3, 1, 65535⟩, u32Bd 4, u32Bd 5, ⟨.iv 6, 0, 65535⟩, ⟨.iv 7, 0, 65535⟩, ⟨.len (.sv 0), 0, 1000⟩], []⟩, 0⟩
structure SegOk (sp dp win mss : Int) (body : ByteArray) : Prop where
  b0 : 1 ≤ sp
  b1 : sp ≤ 65535
  d0 : 1 ≤ dp
  d1 : dp ≤ 65535
  g0 : 0 ≤ win
  g1 : win ≤ 65535
  h0 : 0 ≤ mss
  h1 : mss ≤ 65535
  s : body.size ≤ 1000
section
variable {sa sp da dp sq ak win mss : Int} {body : ByteArray}
theorem tcpErr_zero {syn hasAck fin rst : Bool} (h : tcpErr sp dp ak syn hasAck fin rst win mss body.size = 0) : SegOk sp dp win mss body := by
  unfold tcpErr at h
  split at h
  · omega
  · split at h
    · omega
    · split at h
      · omega
      · constructor <;> omega
theorem wrSt_ok (h : SegIn sa sp da dp sq ak win mss body) (k : SegOk sp dp win mss body) (syn hasAck fin rst : Bool) : wrSt.cx.ok (segEnv sa sp da dp sq ak syn hasAck fin rst win mss body) := by
  refine ⟨fun x hx => ?_, fun t ht => (by cases ht)⟩
  rcases List.mem_cons.1 hx with rfl | hx; · exact ⟨h.a0, h.a1⟩
  rcases List.mem_cons.1 hx with rfl | hx; · exact ⟨k.b0, k.b1⟩
  rcases List.mem_cons.1 hx with rfl | hx; · exact ⟨h.c0, h.c1⟩
  rcases List.mem_cons.1 hx with rfl | hx; · exact ⟨k.d0, k.d1⟩
  rcases List.mem_cons.1 hx with rfl | hx; · exact ⟨h.e0, h.e1⟩
  rcases List.mem_cons.1 hx with rfl | hx; · exact ⟨h.f0, h.f1⟩
  rcases List.mem_cons.1 hx with rfl | hx; · exact ⟨k.g0, k.g1⟩
  rcases List.mem_cons.1 hx with rfl | hx; · exact ⟨k.h0, k.h1⟩
  rcases List.mem_cons.1 hx with rfl | hx
  · have := k.s
    show (0 : Int) ≤ (body.size : Int) ∧ (body.size : Int) ≤ 1000
    omega
  cases hx
def wrSps : List Sy.Spec := [sumSp, chkSp, truthSp, fixSp 21 (sameT [seg]) (.one (.c (.int .i64 (.il 0)))), fixSp 22 (sameT [seg]) (.one (.c (.int .i64 (.il 0)))), fixSp 132 (sameT [seg]) (.one (.c (.int .u8 flT)))]
theorem flT_ok (syn hasAck fin rst : Bool) : (den (segEnv sa sp da dp sq ak syn hasAck fin rst win mss body) flT).i = b2 fin + 2 * b2 syn + 4 * b2 rst + 16 * b2 hasAck := by
  cases syn <;> cases hasAck <;> cases fin <;> cases rst <;> rfl
theorem wrSps_ok (h : SegIn sa sp da dp sq ak win mss body) (syn hasAck fin rst : Bool) (he : tcpErr sp dp ak syn hasAck fin rst win mss body.size = 0) :
    ∀ q ∈ wrSps, q.Ok Try.prog (segEnv sa sp da dp sq ak syn hasAck fin rst win mss body) := by
  intro q hq
  rcases List.mem_cons.1 hq with rfl | hq
  · exact sumSp_ok rfl
  rcases List.mem_cons.1 hq with rfl | hq
  · exact chkSp_ok rfl
  rcases List.mem_cons.1 hq with rfl | hq
  · exact truthSp_ok
  rcases List.mem_cons.1 hq with rfl | hq
  · exact fixSp_ok fun xs hx β w => by rw [← sameT_eq hx]; exact tcp_Check_any h syn hasAck fin rst w 0 he
  rcases List.mem_cons.1 hq with rfl | hq
  · exact fixSp_ok fun xs hx β w => by rw [← sameT_eq hx]; exact ref_TcpCheck_any h syn hasAck fin rst w 0 he
  rcases List.mem_cons.1 hq with rfl | hq
  · refine fixSp_ok fun xs hx β w => ?_
    rw [← sameT_eq hx]
    refine (tcp_flags_any h syn hasAck fin rst w).mono ?_
    rintro e w' ⟨rfl, hb⟩
    refine ⟨?_, hb⟩
    show _ = Ending.returned (Value.int .u8 (den _ flT).i)
    rw [flT_ok]
  cases hq
def textS (sa sp da dp sq ak : Int) (syn hasAck fin rst : Bool) (win mss : Int) (body : ByteArray) : ByteArray :=
  if mss = 0 then (den (segEnv sa sp da dp sq ak syn hasAck fin rst win mss body) textT0).s else (den (segEnv sa sp da dp sq ak syn hasAck fin rst win mss body) textT1).s
set_option maxRecDepth 100000 in
theorem tcp_Write_run : smR Try.prog Try.f19 0 (run Try.prog wrSps 10 400 0 (.code (bodyOf Try.f19)) (enterS Try.f19 [seg] wrSt)) = some
    [(.ret (.tup [(.c (.str textT1)), (.c (.int .i64 (.il 0)))]) [] [(.not (.eq (.iv 7) (.il 0)))]),
    (.ret (.tup [(.c (.str textT0)), (.c (.int .i64 (.il 0)))]) [] [(.eq (.iv 7) (.il 0))])] := by kernel_rfl
set_option maxRecDepth 100000 in
theorem tcp_Write_ok (h : SegIn sa sp da dp sq ak win mss body) (syn hasAck fin rst : Bool) (he : tcpErr sp dp ak syn hasAck fin rst win mss body.size = 0) (w : World) :
    Calls Try.prog 19 #[segV sa sp da dp sq ak syn hasAck fin rst win mss body] w fun e w' => e = .returned (.tuple #[.string (textS sa sp da dp sq ak syn hasAck fin rst win mss body), .int .i64 0]) ∧ Below w.heap.size w w' := by
  have k := tcpErr_zero he
  refine (calls_sm (B := ⟨segEnv sa sp da dp sq ak syn hasAck fin rst win mss body, fun _ => False, w, fun _ => 0, 0⟩) (sp := wrSps) (env_good _ _ _ _) (wrSps_ok h syn hasAck fin rst he) 10 400 Try.func19 rfl [seg] wrSt _ 0 rfl tcp_Write_run (Md.start (wrSt_ok h k syn hasAck fin rst)) (R := fun v w' => v = .tuple #[.string (textS sa sp da dp sq ak syn hasAck fin rst win mss body), .int .i64 0] ∧ Below w.heap.size w w') ?_ rfl).mono ?_
  · refine ⟨?_, ?_, trivial⟩
    all_goals
      intro hpc β w' hH
    · have hm : ¬ mss = 0 := by
        simp only [pcs, den, segEnv, mkEnv, dI, dB, dS, List.getD_cons_zero, List.getD_cons_succ, decide_eq_true_eq, Bool.not_eq_true', decide_eq_false_iff_not, beq_iff_eq, beq_eq_false_iff_ne, and_true] at hpc
        have := k.h0
        omega
      refine ⟨?_, Sy.Only.below_all hH.only⟩
      unfold textS
      rw [if_neg hm]
      rfl
    · have hm : mss = 0 := by
        simp only [pcs, den, segEnv, mkEnv, dI, dB, dS, List.getD_cons_zero, List.getD_cons_succ, decide_eq_true_eq, Bool.not_eq_true', decide_eq_false_iff_not, beq_iff_eq, beq_eq_false_iff_ne, and_true] at hpc
        have := k.h0
        omega
      refine ⟨?_, Sy.Only.below_all hH.only⟩
      unfold textS
      rw [if_pos hm]
      rfl
  · rintro e w' ⟨v, rfl, rfl, hb⟩
    exact ⟨rfl, hb⟩
set_option maxRecDepth 100000 in
theorem ref_TcpWrite_run : smR Try.prog Try.f20 0 (run Try.prog wrSps 10 400 0 (.code (bodyOf Try.f20)) (enterS Try.f20 [seg] wrSt)) = some
    [(.ret (.tup [(.c (.str textT1)), (.c (.int .i64 (.il 0)))]) [] [(.lt (.il 0) (.iv 7))]),
    (.ret (.tup [(.c (.str textT0)), (.c (.int .i64 (.il 0)))]) [] [(.not (.lt (.il 0) (.iv 7)))])] := by kernel_rfl
set_option maxRecDepth 100000 in
theorem ref_TcpWrite_ok (h : SegIn sa sp da dp sq ak win mss body) (syn hasAck fin rst : Bool) (he : tcpErr sp dp ak syn hasAck fin rst win mss body.size = 0) (w : World) :
    Calls Try.prog 20 #[segV sa sp da dp sq ak syn hasAck fin rst win mss body] w fun e w' => e = .returned (.tuple #[.string (textS sa sp da dp sq ak syn hasAck fin rst win mss body), .int .i64 0]) ∧ Below w.heap.size w w' := by
  have k := tcpErr_zero he
  refine (calls_sm (B := ⟨segEnv sa sp da dp sq ak syn hasAck fin rst win mss body, fun _ => False, w, fun _ => 0, 0⟩) (sp := wrSps) (env_good _ _ _ _) (wrSps_ok h syn hasAck fin rst he) 10 400 Try.func20 rfl [seg] wrSt _ 0 rfl ref_TcpWrite_run (Md.start (wrSt_ok h k syn hasAck fin rst)) (R := fun v w' => v = .tuple #[.string (textS sa sp da dp sq ak syn hasAck fin rst win mss body), .int .i64 0] ∧ Below w.heap.size w w') ?_ rfl).mono ?_
  · refine ⟨?_, ?_, trivial⟩
    all_goals
      intro hpc β w' hH
    · have hm : ¬ mss = 0 := by
        simp only [pcs, den, segEnv, mkEnv, dI, dB, dS, List.getD_cons_zero, List.getD_cons_succ, decide_eq_true_eq, Bool.not_eq_true', decide_eq_false_iff_not, beq_iff_eq, beq_eq_false_iff_ne, and_true] at hpc
        have := k.h0
        omega
      refine ⟨?_, Sy.Only.below_all hH.only⟩
      unfold textS
      rw [if_neg hm]
      rfl
    · have hm : mss = 0 := by
        simp only [pcs, den, segEnv, mkEnv, dI, dB, dS, List.getD_cons_zero, List.getD_cons_succ, decide_eq_true_eq, Bool.not_eq_true', decide_eq_false_iff_not, beq_iff_eq, beq_eq_false_iff_ne, and_true] at hpc
        have := k.h0
        omega
      refine ⟨?_, Sy.Only.below_all hH.only⟩
      unfold textS
      rw [if_pos hm]
      rfl
  · rintro e w' ⟨v, rfl, rfl, hb⟩
    exact ⟨rfl, hb⟩
end
end Go.Proofs.Ythjigajielhkfaa
