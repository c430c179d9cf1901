/- The law TcpReads: its walk, by a run with letters. -/
import Derived.Test.YthjigajielhkfaaTcpPr
import Derived.Test.YthjigajielhkfaaLawLift
namespace Go.Proofs.Ythjigajielhkfaa
open Go.RowKit Sy
set_option linter.unusedVariables false

theorem tcpRead_both (s : ByteArray) (src dst : Int) (hi : RdIn s src dst) :
    ∃ (a0 a1 a2 a3 a4 a5 a6 a7 er : Int) (b0 b1 b2 b3 : Bool) (body : ByteArray), (∀ w, Calls Try.prog 107 #[.int .u32 src, .int .u32 dst, .string s] w fun e1 w' => e1 = .returned (.tuple #[segV a0 a1 a2 a3 a4 a5 b0 b1 b2 b3 a6 a7 body, .int .i64 er]) ∧ Below w.heap.size w w') ∧
      (∀ w, Calls Try.prog 108 #[.int .u32 src, .int .u32 dst, .string s] w fun e1 w' => e1 = .returned (.tuple #[segV a0 a1 a2 a3 a4 a5 b0 b1 b2 b3 a6 a7 body, .int .i64 er]) ∧ Below w.heap.size w w') := by
  obtain ⟨e, he⟩ : ∃ e, ∀ m, optF s (rdTo s - 20).toNat 20 (rdTo s - 20) 0 = some m → rdChk s m = e := by
    cases optF s (rdTo s - 20).toNat 20 (rdTo s - 20) 0 with
    | none => exact ⟨0, fun m h => by cases h⟩
    | some m => exact ⟨rdChk s m, fun m' h => by injection h with h; rw [h]⟩
  have c1 : ∀ w, Calls Try.prog 107 #[.int .u32 src, .int .u32 dst, .string s] w fun e1 w' => e1 = .returned (rdVal s src dst ((optF s (rdTo s - 20).toNat 20 (rdTo s - 20) 0).getD 0) (rdEr s src dst (optF s (rdTo s - 20).toNat 20 (rdTo s - 20) 0) e)) ∧ Below w.heap.size w w' := fun w => by
    refine (tcp_Read_any s src dst e _ _ w hi rfl he rfl).mono ?_
    rintro e1 w' ⟨v, rfl, rfl, hb⟩
    exact ⟨rfl, hb⟩
  have c2 : ∀ w, Calls Try.prog 108 #[.int .u32 src, .int .u32 dst, .string s] w fun e1 w' => e1 = .returned (rdVal s src dst ((optF s (rdTo s - 20).toNat 20 (rdTo s - 20) 0).getD 0) (rdEr s src dst (optF s (rdTo s - 20).toNat 20 (rdTo s - 20) 0) e)) ∧ Below w.heap.size w w' := fun w => by
    refine (ref_TcpRead_any s src dst e _ _ w hi (fun _ _ => rfl) he rfl).mono ?_
    rintro e1 w' ⟨v, rfl, rfl, hb⟩
    exact ⟨rfl, hb⟩
  generalize rdEr s src dst _ e = er at c1 c2
  unfold rdVal at c1 c2
  by_cases h0 : er = 0
  · simp only [if_pos h0] at c1 c2
    exact ⟨_, _, _, _, _, _, _, _, _, _, _, _, _, _, c1, c2⟩
  · simp only [if_neg h0] at c1 c2
    exact ⟨_, _, _, _, _, _, _, _, _, _, _, _, _, _, c1, c2⟩
def rdV : SV := .tup [.agg [.int .u32 (.iv 2), .int .i64 (.iv 3), .int .u32 (.iv 4), .int .i64 (.iv 5), .int .u32 (.iv 6), .int .u32 (.iv 7), .bool (.bv 0), .bool (.bv 1), .bool (.bv 2), .bool (.bv 3), .int .i64 (.iv 8), .int .i64 (.iv 9), .str (.sv 1)], .c (.int .i64 (.iv 10))]
def rdSps : List Sy.Spec := [fixSp 107 (sameT rdArgs) rdV, fixSp 108 (sameT rdArgs) rdV]
def rdLawSt : Sy.St := ⟨[], [], ⟨[], []⟩, 0⟩
set_option maxRecDepth 100000 in
theorem tcpReads_run : smR Try.prog Try.f13 0 (run Try.prog rdSps 10 400 0 (.code (bodyOf Try.f13)) (enterS Try.f13 rdArgs rdLawSt)) = some
    [.ret (.one (.c (.bool (.bl true)))) [] []] := by kernel_rfl
set_option maxRecDepth 100000 in
theorem walk_tcpReads (w : World) (src dst : Int) (s : ByteArray) (h0 : 0 ≤ src) (h0' : src ≤ 4294967295) (h1 : 0 ≤ dst) (h1' : dst ≤ 4294967295) (hs : s.size ≤ 140737488351232) :
    Calls Try.prog 13 #[.int .u32 src, .int .u32 dst, .string s] w fun e w' => e = .returned (.bool true) ∧ Below w.heap.size w w' := by
  obtain ⟨a0, a1, a2, a3, a4, a5, a6, a7, er, b0, b1, b2, b3, body, c1, c2⟩ := tcpRead_both s src dst ⟨h0, h0', h1, h1', hs⟩
  refine (calls_sm (B := ⟨mkEnv [src, dst, a0, a1, a2, a3, a4, a5, a6, a7, er] [b0, b1, b2, b3] [s, body] [], fun _ => False, w, fun _ => 0, 0⟩) (sp := rdSps) (env_good _ _ _ _) (by
    intro q hq
    rcases List.mem_cons.1 hq with rfl | hq
    · exact fixSp_ok fun xs hx β w => by rw [← sameT_eq hx]; exact c1 w
    rcases List.mem_cons.1 hq with rfl | hq
    · exact fixSp_ok fun xs hx β w => by rw [← sameT_eq hx]; exact c2 w
    cases hq) 10 400 Try.func13 rfl rdArgs rdLawSt _ 0 rfl tcpReads_run (Md.start ⟨fun _ h => (by cases h), fun _ h => (by cases h)⟩) (R := fun v w' => v = .bool true ∧ Below w.heap.size w w') ⟨fun _ β w' hH => ⟨rfl, Sy.Only.below_all hH.only⟩, trivial⟩ rfl).mono ?_
  rintro e w' ⟨v, rfl, rfl, hb⟩
  exact ⟨rfl, hb⟩
end Go.Proofs.Ythjigajielhkfaa
