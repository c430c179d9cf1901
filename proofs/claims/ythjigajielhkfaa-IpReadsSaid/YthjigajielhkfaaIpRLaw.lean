/- The law IpReads: its walk, by a run with letters. -/
import Derived.Test.YthjigajielhkfaaIpRdRef
import Derived.Test.YthjigajielhkfaaIpRd
import Derived.Test.YthjigajielhkfaaIpRdSh
import Derived.Test.YthjigajielhkfaaWire2
import Derived.Test.YthjigajielhkfaaLawLift
namespace Go.Proofs.Ythjigajielhkfaa
open Go.RowKit Sy
set_option linter.unusedVariables false

theorem ipRead_both (s : ByteArray) (hs : s.size ≤ 140737488351232) :
    ∃ (a b c d e off er : Int) (dont more : Bool) (body : ByteArray), (∀ w, Calls Try.prog 15 #[.string s] w fun e1 w' => e1 = .returned (.tuple #[.agg (pktC a b c d e dont more off body).toArray, .int .i64 er]) ∧ Below w.heap.size w w') ∧
      (∀ w, Calls Try.prog 16 #[.string s] w fun e1 w' => e1 = .returned (.tuple #[.agg (pktC a b c d e dont more off body).toArray, .int .i64 er]) ∧ Below w.heap.size w w') := by
  by_cases h20 : s.size < 20
  · exact ⟨0, 0, 0, 0, 0, 0, 3, false, false, ⟨#[]⟩, fun w => ip_Read_short s w h20, fun w => ref_IpRead_short s w h20⟩
  have c1 := fun w => ip_Read_any s _ rfl w hs (by omega) _ rfl
  have c2 := fun w => ref_IpRead_any s _ rfl w hs (by omega) _ rfl
  generalize ipErrN _ _ _ _ _ _ _ _ = er at c1 c2
  by_cases he : er = 0
  · rw [he] at c1 c2
    simp only [if_true] at c1 c2
    exact ⟨_, _, _, _, _, _, _, _, _, _, c1, c2⟩
  · simp only [he, if_false] at c1 c2
    exact ⟨0, 0, 0, 0, 0, 0, _, false, false, ⟨#[]⟩, c1, c2⟩

/-- A call with just these arguments gives just that. -/
def fixSp (f : FuncId) (ok : List SV → Bool) (v : SV) : Sy.Spec := pureSpec f (fun _ xs => if ok xs then some [] else none) (fun _ xs => if ok xs then some (v, []) else none)
theorem fixSp_ok {P : Program} {ρ : Env} {f : FuncId} {ok : List SV → Bool} {v : SV} (h : ∀ xs, ok xs = true → ∀ β w, Calls P f (xs.map (SV.den ρ β)).toArray w fun e w' => e = .returned (v.den ρ β) ∧ Below w.heap.size w w') : (fixSp f ok v).Ok P ρ := by
  refine pureSpec_ok fun c xs m v' bs hc hpre hres hm => ?_
  split at hres
  · rename_i q
    injection hres with hres
    injection hres with h1 h2
    subst h1 h2
    exact ⟨fun x hx => (by cases hx), h xs q⟩
  · cases hres
def ipV : SV := .tup [.agg [.int .u32 (.iv 4), .int .u32 (.iv 5), .int .i64 (.iv 6), .int .i64 (.iv 7), .int .i64 (.iv 8), .bool (.bv 0), .bool (.bv 1), .int .i64 (.iv 9), .str (.sv 1)], .c (.int .i64 (.iv 10))]
def ipArgs : List SV := [.one (.c (.int .u32 (.iv 0))), .one (.c (.int .u32 (.iv 1))), .one (.c (.int .i64 (.iv 2))), .one (.c (.int .i64 (.iv 3)))]
def lawSt : Sy.St := ⟨[], [], ⟨[], []⟩, 0⟩
def ipSps : List Sy.Spec := [fixSp 15 (sameT [.one (.c (.str (.sv 0)))]) ipV, fixSp 16 (sameT [.one (.c (.str (.sv 0)))]) ipV,
  fixSp 17 (sameT ipArgs) (.one (.c (.str (.sv 2)))), fixSp 18 (sameT ipArgs) (.one (.c (.str (.sv 2))))]
set_option maxRecDepth 100000 in
theorem ipReads_run : smR Try.prog Try.f3 0 (run Try.prog ipSps 10 400 0 (.code (bodyOf Try.f3)) (enterS Try.f3 (.one (.c (.str (.sv 0))) :: ipArgs) lawSt)) = some
    [.ret (.one (.c (.bool (.bl true)))) [] []] := by kernel_rfl
set_option maxRecDepth 100000 in
theorem walk_ipReads (w : World) (s : ByteArray) (src dst proto len : Int) (hs : s.size ≤ 140737488351232) (h0 : 0 ≤ src) (h0' : src ≤ 4294967295) (h1 : 0 ≤ dst) (h1' : dst ≤ 4294967295) (h2 : -9223372036854775808 ≤ proto) (h2' : proto ≤ 9223372036854775807) (h3 : -9223372036854775808 ≤ len) (h3' : len ≤ 9223372036854775807) :
    Calls Try.prog 3 #[.string s, .int .u32 src, .int .u32 dst, .int .i64 proto, .int .i64 len] w fun e w' => e = .returned (.bool true) ∧ Below w.heap.size w w' := by
  obtain ⟨a, b, c, d, e, off, er, dont, more, body, c1, c2⟩ := ipRead_both s hs
  have p1 := fun w => ip_Pseudo src dst proto len w h0 h0' h1 h1'
  have p2 := fun w => ref_Pseudo src dst proto len w h0 h0' h1 h1' h2 h2' h3 h3'
  refine (calls_sm (B := ⟨mkEnv [src, dst, proto, len, a, b, c, d, e, off, er] [dont, more] [s, body, bs (psL src dst proto len)] [], fun _ => False, w, fun _ => 0, 0⟩) (sp := ipSps) (env_good _ _ _ _) (by
    intro q hq
    rcases List.mem_cons.1 hq with rfl | hq
    · exact fixSp_ok fun xs hx β w => by rw [← sameT_eq hx]; exact c1 w
    rcases List.mem_cons.1 hq with rfl | hq
    · exact fixSp_ok fun xs hx β w => by rw [← sameT_eq hx]; exact c2 w
    rcases List.mem_cons.1 hq with rfl | hq
    · exact fixSp_ok fun xs hx β w => by rw [← sameT_eq hx]; exact p1 w
    rcases List.mem_cons.1 hq with rfl | hq
    · exact fixSp_ok fun xs hx β w => by rw [← sameT_eq hx]; exact p2 w
    cases hq) 10 400 Try.func3 rfl _ lawSt _ 0 rfl ipReads_run (Md.start ⟨fun _ h => (by cases h), fun _ h => (by cases h)⟩) (R := fun v w' => v = .bool true ∧ Below w.heap.size w w') ⟨fun _ β w' hH => ⟨rfl, Sy.Only.below_all hH.only⟩, trivial⟩ rfl).mono ?_
  rintro e w' ⟨v, rfl, rfl, hb⟩
  exact ⟨rfl, hb⟩
end Go.Proofs.Ythjigajielhkfaa
