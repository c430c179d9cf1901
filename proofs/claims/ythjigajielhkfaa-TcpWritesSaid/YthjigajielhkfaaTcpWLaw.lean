/- The law TcpWrites: its walk, by runs with letters. -/
import Derived.Test.YthjigajielhkfaaTcpWr
import Derived.Test.YthjigajielhkfaaLawLift
namespace Go.Proofs.Ythjigajielhkfaa
open Go.RowKit Sy
set_option linter.unusedVariables false

def tcpSegLeaves : List Leaf := [(some (some .u32)), (some (some .i64)), (some (some .u32)), (some (some .i64)), (some (some .u32)), (some (some .u32)), (some none), (some none), (some none), (some none), (some (some .i64)), (some (some .i64)), none]
theorem tcpSeg_open {l : List Value} (h : leafAll tcpSegLeaves l) : ∃ (sa : Int) (sp : Int) (da : Int) (dp : Int) (sq : Int) (ak : Int) (syn : Bool) (hasAck : Bool) (fin : Bool) (rst : Bool) (win : Int) (mss : Int) (body : ByteArray), l = segL sa sp da dp sq ak syn hasAck fin rst win mss body ∧ (0 ≤ sa ∧ sa ≤ 4294967295) ∧ (-9223372036854775808 ≤ sp ∧ sp ≤ 9223372036854775807) ∧ (0 ≤ da ∧ da ≤ 4294967295) ∧ (-9223372036854775808 ≤ dp ∧ dp ≤ 9223372036854775807) ∧ (0 ≤ sq ∧ sq ≤ 4294967295) ∧ (0 ≤ ak ∧ ak ≤ 4294967295) ∧ (-9223372036854775808 ≤ win ∧ win ≤ 9223372036854775807) ∧ (-9223372036854775808 ≤ mss ∧ mss ≤ 9223372036854775807) ∧ (body.size ≤ 9223372036854775807) := by
  unfold tcpSegLeaves at h
  rcases l with _ | ⟨v0, l⟩
  · exact h.elim
  obtain ⟨h0, h⟩ := h
  obtain ⟨sa, rfl, w0⟩ := h0
  have b0 := bounds_u32 w0
  rcases l with _ | ⟨v1, l⟩
  · exact h.elim
  obtain ⟨h1, h⟩ := h
  obtain ⟨sp, rfl, w1⟩ := h1
  have b1 := bounds_i64 w1
  rcases l with _ | ⟨v2, l⟩
  · exact h.elim
  obtain ⟨h2, h⟩ := h
  obtain ⟨da, rfl, w2⟩ := h2
  have b2 := bounds_u32 w2
  rcases l with _ | ⟨v3, l⟩
  · exact h.elim
  obtain ⟨h3, h⟩ := h
  obtain ⟨dp, rfl, w3⟩ := h3
  have b3 := bounds_i64 w3
  rcases l with _ | ⟨v4, l⟩
  · exact h.elim
  obtain ⟨h4, h⟩ := h
  obtain ⟨sq, rfl, w4⟩ := h4
  have b4 := bounds_u32 w4
  rcases l with _ | ⟨v5, l⟩
  · exact h.elim
  obtain ⟨h5, h⟩ := h
  obtain ⟨ak, rfl, w5⟩ := h5
  have b5 := bounds_u32 w5
  rcases l with _ | ⟨v6, l⟩
  · exact h.elim
  obtain ⟨h6, h⟩ := h
  obtain ⟨syn, rfl⟩ := h6
  rcases l with _ | ⟨v7, l⟩
  · exact h.elim
  obtain ⟨h7, h⟩ := h
  obtain ⟨hasAck, rfl⟩ := h7
  rcases l with _ | ⟨v8, l⟩
  · exact h.elim
  obtain ⟨h8, h⟩ := h
  obtain ⟨fin, rfl⟩ := h8
  rcases l with _ | ⟨v9, l⟩
  · exact h.elim
  obtain ⟨h9, h⟩ := h
  obtain ⟨rst, rfl⟩ := h9
  rcases l with _ | ⟨v10, l⟩
  · exact h.elim
  obtain ⟨h10, h⟩ := h
  obtain ⟨win, rfl, w10⟩ := h10
  have b10 := bounds_i64 w10
  rcases l with _ | ⟨v11, l⟩
  · exact h.elim
  obtain ⟨h11, h⟩ := h
  obtain ⟨mss, rfl, w11⟩ := h11
  have b11 := bounds_i64 w11
  rcases l with _ | ⟨v12, l⟩
  · exact h.elim
  obtain ⟨h12, h⟩ := h
  obtain ⟨body, rfl, b12⟩ := h12
  rcases l with _ | ⟨v, l⟩
  · exact ⟨sa, sp, da, dp, sq, ak, syn, hasAck, fin, rst, win, mss, body, rfl, b0, b1, b2, b3, b4, b5, b10, b11, (by unfold maxLen at b12; exact b12)⟩
  · exact h.elim

def twOkSps : List Sy.Spec := [truthSp, fixSp 21 (sameT [seg]) (.one (.c (.int .i64 (.il 0)))), fixSp 22 (sameT [seg]) (.one (.c (.int .i64 (.il 0)))),
  fixSp 19 (sameT [seg]) (.tup [.c (.str (.sv 1)), .c (.int .i64 (.il 0))]), fixSp 20 (sameT [seg]) (.tup [.c (.str (.sv 1)), .c (.int .i64 (.il 0))])]
def twNoSps : List Sy.Spec := [truthSp, fixSp 21 (sameT [seg]) (.one (.c (.int .i64 (.iv 8)))), fixSp 22 (sameT [seg]) (.one (.c (.int .i64 (.iv 8))))]
def twNoSt : Sy.St := { chkSt with cx := ⟨chkSt.cx.bs, [.not (.eq (.iv 8) (.il 0))]⟩ }
set_option maxRecDepth 100000 in
theorem tcpWrites_ok_run : smR Try.prog Try.f4 0 (run Try.prog twOkSps 10 400 0 (.code (bodyOf Try.f4)) (enterS Try.f4 [seg] chkSt)) = some
    [.ret (.one (.c (.bool (.bl true)))) [] [.bv 2, .bv 0], .ret (.one (.c (.bool (.bl true)))) [] [.not (.bv 2), .bv 0], .ret (.one (.c (.bool (.bl true)))) [] [.bv 2, .not (.bv 0)], .ret (.one (.c (.bool (.bl true)))) [] [.not (.bv 2), .not (.bv 0)]] := by kernel_rfl
set_option maxRecDepth 100000 in
theorem tcpWrites_no_run : smR Try.prog Try.f4 0 (run Try.prog twNoSps 10 400 0 (.code (bodyOf Try.f4)) (enterS Try.f4 [seg] twNoSt)) = some
    [.ret (.one (.c (.bool (.bl true)))) [] [.bv 2, .bv 0, .not (.eq (.iv 8) (.il 0))], .ret (.one (.c (.bool (.bl true)))) [] [.not (.bv 2), .bv 0, .not (.eq (.iv 8) (.il 0))], .ret (.one (.c (.bool (.bl true)))) [] [.bv 2, .not (.bv 0), .not (.eq (.iv 8) (.il 0))], .ret (.one (.c (.bool (.bl true)))) [] [.not (.bv 2), .not (.bv 0), .not (.eq (.iv 8) (.il 0))]] := by kernel_rfl
theorem chk_bds {sa sp da dp sq ak win mss : Int} {body : ByteArray} (h : SegIn sa sp da dp sq ak win mss body) (syn hasAck fin rst : Bool) (more : List Int) (ss : List ByteArray) :
    Bds (mkEnv ([sa, sp, da, dp, sq, ak, win, mss] ++ more) [syn, hasAck, fin, rst] (body :: ss) []) chkSt.cx.bs := by
  intro x hx
  rcases List.mem_cons.1 hx with rfl | hx; · exact ⟨h.a0, h.a1⟩
  rcases List.mem_cons.1 hx with rfl | hx; · exact ⟨h.b0, h.b1⟩
  rcases List.mem_cons.1 hx with rfl | hx; · exact ⟨h.c0, h.c1⟩
  rcases List.mem_cons.1 hx with rfl | hx; · exact ⟨h.d0, h.d1⟩
  rcases List.mem_cons.1 hx with rfl | hx; · exact ⟨h.e0, h.e1⟩
  rcases List.mem_cons.1 hx with rfl | hx; · exact ⟨h.f0, h.f1⟩
  rcases List.mem_cons.1 hx with rfl | hx; · exact ⟨h.g0, h.g1⟩
  rcases List.mem_cons.1 hx with rfl | hx; · exact ⟨h.h0, h.h1⟩
  rcases List.mem_cons.1 hx with rfl | hx
  · have := h.s
    show (0 : Int) ≤ (body.size : Int) ∧ (body.size : Int) ≤ 9223372036854775807
    omega
  cases hx
theorem walk_tcpWrites (w : World) (c : Array Value) (lf : leafAll tcpSegLeaves c.toList) :
    Calls Try.prog 4 #[.agg c] w fun e w' => e = .returned (.bool true) ∧ Below w.heap.size w w' := by
  obtain ⟨l⟩ := c
  obtain ⟨sa, sp, da, dp, sq, ak, syn, hasAck, fin, rst, win, mss, body, rfl, ⟨a0, a1⟩, ⟨b0, b1⟩, ⟨c0, c1⟩, ⟨d0, d1⟩, ⟨e0, e1⟩, ⟨f0, f1⟩, ⟨g0, g1⟩, ⟨h0, h1⟩, s⟩ := tcpSeg_open lf
  clear lf
  have h : SegIn sa sp da dp sq ak win mss body := ⟨a0, a1, b0, b1, c0, c1, d0, d1, e0, e1, f0, f1, g0, g1, h0, h1, s⟩
  by_cases he : tcpErr sp dp ak syn hasAck fin rst win mss body.size = 0
  · refine (calls_sm (B := ⟨mkEnv ([sa, sp, da, dp, sq, ak, win, mss] ++ []) [syn, hasAck, fin, rst] [body, textS sa sp da dp sq ak syn hasAck fin rst win mss body] [], fun _ => False, w, fun _ => 0, 0⟩) (sp := twOkSps) (env_good _ _ _ _) (by
      intro q hq
      rcases List.mem_cons.1 hq with rfl | hq
      · exact truthSp_ok
      rcases List.mem_cons.1 hq with rfl | hq
      · exact fixSp_ok fun xs hx β w => by rw [← sameT_eq hx]; exact tcp_Check_any h syn hasAck fin rst w 0 he
      rcases List.mem_cons.1 hq with rfl | hq
      · exact fixSp_ok fun xs hx β w => by rw [← sameT_eq hx]; exact ref_TcpCheck_any h syn hasAck fin rst w 0 he
      rcases List.mem_cons.1 hq with rfl | hq
      · exact fixSp_ok fun xs hx β w => by rw [← sameT_eq hx]; exact tcp_Write_ok h syn hasAck fin rst he w
      rcases List.mem_cons.1 hq with rfl | hq
      · exact fixSp_ok fun xs hx β w => by rw [← sameT_eq hx]; exact ref_TcpWrite_ok h syn hasAck fin rst he w
      cases hq) 10 400 Try.func4 rfl [seg] chkSt _ 0 rfl tcpWrites_ok_run (Md.start ⟨chk_bds h syn hasAck fin rst [] _, fun _ h => (by cases h)⟩) (R := fun v w' => v = .bool true ∧ Below w.heap.size w w')
      ⟨fun _ β w' hH => ⟨rfl, Sy.Only.below_all hH.only⟩, fun _ β w' hH => ⟨rfl, Sy.Only.below_all hH.only⟩, fun _ β w' hH => ⟨rfl, Sy.Only.below_all hH.only⟩, fun _ β w' hH => ⟨rfl, Sy.Only.below_all hH.only⟩, trivial⟩ rfl).mono ?_
    rintro e w' ⟨v, rfl, rfl, hb⟩
    exact ⟨rfl, hb⟩
  · refine (calls_sm (B := ⟨mkEnv ([sa, sp, da, dp, sq, ak, win, mss] ++ [tcpErr sp dp ak syn hasAck fin rst win mss body.size]) [syn, hasAck, fin, rst] [body] [], fun _ => False, w, fun _ => 0, 0⟩) (sp := twNoSps) (env_good _ _ _ _) (by
      intro q hq
      rcases List.mem_cons.1 hq with rfl | hq
      · exact truthSp_ok
      rcases List.mem_cons.1 hq with rfl | hq
      · exact fixSp_ok fun xs hx β w => by rw [← sameT_eq hx]; exact tcp_Check_any h syn hasAck fin rst w _ rfl
      rcases List.mem_cons.1 hq with rfl | hq
      · exact fixSp_ok fun xs hx β w => by rw [← sameT_eq hx]; exact ref_TcpCheck_any h syn hasAck fin rst w _ rfl
      cases hq) 10 400 Try.func4 rfl [seg] twNoSt _ 0 rfl tcpWrites_no_run (Md.start ⟨chk_bds h syn hasAck fin rst [_] _, fun t ht => (by
        rcases List.mem_cons.1 ht with rfl | ht
        · show (!(tcpErr sp dp ak syn hasAck fin rst win mss body.size == 0)) = true
          simpa using he
        · cases ht)⟩) (R := fun v w' => v = .bool true ∧ Below w.heap.size w w')
      ⟨fun _ β w' hH => ⟨rfl, Sy.Only.below_all hH.only⟩, fun _ β w' hH => ⟨rfl, Sy.Only.below_all hH.only⟩, fun _ β w' hH => ⟨rfl, Sy.Only.below_all hH.only⟩, fun _ β w' hH => ⟨rfl, Sy.Only.below_all hH.only⟩, trivial⟩ rfl).mono ?_
    rintro e w' ⟨v, rfl, rfl, hb⟩
    exact ⟨rfl, hb⟩
end Go.Proofs.Ythjigajielhkfaa
