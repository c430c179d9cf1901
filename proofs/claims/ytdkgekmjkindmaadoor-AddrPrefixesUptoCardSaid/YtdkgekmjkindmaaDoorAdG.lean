/- AddrPrefixes: the law's run. -/
import Derived.Test.YtdkgekmjkindmaaDoorAdF
namespace Go.Proofs.YtdkgekmjkindmaaDoor
open Go.RowKit Go.Lib Go.Shelf Sy
set_option linter.unusedVariables false
set_option linter.unusedSimpArgs false
theorem px_calls (s : ByteArray) (hs : s.size < 4294967281) {w : World} (hw : LibW w) : Calls Tryd.prog 9 #[.string s] w fun e w' => e = .returned (qfR (qfV s)) ∧ Below w.heap.size w w' := by
  rw [← px_qf]
  exact callsIn_wide.1 (px_in s hs hw)
theorem qf_rng (s : ByteArray) : (0 ≤ (qfV s).1.1 ∧ (qfV s).1.1 ≤ 4294967295) ∧ (0 ≤ (qfV s).1.2 ∧ (qfV s).1.2 ≤ 32) ∧ (0 ≤ (qfV s).2 ∧ (qfV s).2 ≤ 4) := by
  unfold qfV qfL
  split
  · split
    · rename_i q
      obtain ⟨n0, n1, _⟩ := chk_0 q.2.2
      exact ⟨(rf_rng _).1, ⟨n0, n1⟩, Int.le_refl 0, (by decide : (0 : Int) ≤ 4)⟩
    · exact ⟨⟨by decide, by decide⟩, ⟨by decide, by decide⟩, by decide, by decide⟩
  · exact ⟨⟨by decide, by decide⟩, ⟨by decide, by decide⟩, by decide, by decide⟩
def qsSel (c : Cx) : List SV → Option (List Tm × SV × List Bd)
  | [.one (.c (.str x))] => some (need c (.le (.len x) (.il 4294967280)), .tup [.agg [.int .u32 (apI 70 x), .int .i64 (apI 71 x)], .c (.int .i64 (apI 72 x))], [⟨apI 70 x, 0, 4294967295⟩, ⟨apI 71 x, 0, 32⟩, ⟨apI 72 x, 0, 4⟩])
  | _ => none
theorem qsSel_ok {ρ : Env} {f : FuncId} (ho : ρ.o 0 = libT) (h0 : ∀ x y z, ρ.f 70 x y z = dI (qfV x.s).1.1) (h1 : ∀ x y z, ρ.f 71 x y z = dI (qfV x.s).1.2) (h2 : ∀ x y z, ρ.f 72 x y z = dI (qfV x.s).2)
    (hcall : ∀ (s : ByteArray), s.size < 4294967281 → ∀ w, LibW w → Calls Tryd.prog f #[.string s] w fun e w' => e = .returned (qfR (qfV s)) ∧ Below w.heap.size w w') : (libSp f qsSel).Ok Tryd.prog ρ := by
  refine libSp_ok ho fun {c xs m v bs} hs hc hm β w hw => ?_
  unfold qsSel at hs
  split at hs
  · rename_i x
    injection hs with hs
    injection hs with e1 hs
    injection hs with e2 e3
    subst e1 e2 e3
    have q := need_ok hc hm
    rw [t_le, i_il] at q
    change (((den ρ x).s.size : Nat) : Int) ≤ 4294967280 at q
    obtain ⟨r1, r2, r3⟩ := qf_rng (den ρ x).s
    refine ⟨fun y hy => ?_, ?_⟩
    · simp only [List.mem_cons, List.not_mem_nil, or_false] at hy
      rcases hy with rfl | rfl | rfl
      · show (0 : Int) ≤ (ρ.f 70 _ _ _).i ∧ (ρ.f 70 _ _ _).i ≤ 4294967295
        rw [h0]
        exact r1
      · show (0 : Int) ≤ (ρ.f 71 _ _ _).i ∧ (ρ.f 71 _ _ _).i ≤ 32
        rw [h1]
        exact r2
      · show (0 : Int) ≤ (ρ.f 72 _ _ _).i ∧ (ρ.f 72 _ _ _).i ≤ 4
        rw [h2]
        exact r3
    · refine (hcall (den ρ x).s (by omega) w hw).mono ?_
      rintro e w' ⟨rfl, hb⟩
      refine ⟨?_, hb⟩
      show _ = Ending.returned (.tuple #[.agg #[.int .u32 (ρ.f 70 _ _ _).i, .int .i64 (ρ.f 71 _ _ _).i], .int .i64 (ρ.f 72 _ _ _).i])
      rw [h0, h1, h2]
      rfl
  · cases hs
def chB (a n : Int) : Bool := true
def pfxOk (c : Cx) (a n : Tm) : List Tm := (need c (.le (.il 0) a) ++ need c (.le a (.il 4294967295))) ++ (need c (.le (.il (-9223372036854775808)) n) ++ need c (.le n (.il 9223372036854775807)))
theorem pfxOk_ok {ρ : Env} {c : Cx} (hc : c.ok ρ) {a n : Tm} (h : Sy.Met ρ (pfxOk c a n)) : (0 ≤ (den ρ a).i ∧ (den ρ a).i ≤ 4294967295) ∧ (-9223372036854775808 ≤ (den ρ n).i ∧ (den ρ n).i ≤ 9223372036854775807) := by
  have q1 := need_ok hc h.l.l
  have q2 := need_ok hc h.l.r
  have q3 := need_ok hc h.r.l
  have q4 := need_ok hc h.r.r
  rw [t_le, i_il] at q1 q2 q3 q4
  exact ⟨⟨q1, q2⟩, q3, q4⟩
theorem chkN_rng (a n : Int) : 0 ≤ chkN a n ∧ chkN a n ≤ 4 := by
  unfold chkN
  split
  · exact ⟨by decide, by decide⟩
  · split <;> exact ⟨by decide, by decide⟩
theorem ppV_chk (a n : Int) : (ppV a n).2 = chkN a n := by
  unfold ppV
  split
  · rename_i h
    exact h.symm
  · rfl
def pqSel (c : Cx) : List SV → Option (List Tm × SV × List Bd)
  | [.one (.agg [.int .u32 a, .int .i64 n])] => some (pfxOk c a n, .tup [.c (.str (.ap 73 a n (.il 0))), .c (.int .i64 (.ap 74 a n (.il 0)))], [⟨.ap 74 a n (.il 0), 0, 4⟩])
  | _ => none
theorem pqSel_ok {ρ : Env} {f : FuncId} (ho : ρ.o 0 = libT) (h0 : ∀ x y z, ρ.f 73 x y z = dS (ppV x.i y.i).1) (h1 : ∀ x y z, ρ.f 74 x y z = dI (chkN x.i y.i))
    (hcall : ∀ (a n : Int), 0 ≤ a → a ≤ 4294967295 → -9223372036854775808 ≤ n → n ≤ 9223372036854775807 → ∀ w, LibW w → Calls Tryd.prog f #[pfV a n] w fun e w' => e = .returned (.tuple #[.string (ppV a n).1, .int .i64 (ppV a n).2]) ∧ Below w.heap.size w w') : (libSp f pqSel).Ok Tryd.prog ρ := by
  refine libSp_ok ho fun {c xs m v bs} hs hc hm β w hw => ?_
  unfold pqSel at hs
  split at hs
  · rename_i a n
    injection hs with hs
    injection hs with e1 hs
    injection hs with e2 e3
    subst e1 e2 e3
    obtain ⟨⟨a0, a1⟩, n0, n1⟩ := pfxOk_ok hc hm
    refine ⟨fun y hy => ?_, ?_⟩
    · rw [List.mem_singleton] at hy
      subst hy
      show (0 : Int) ≤ (ρ.f 74 _ _ _).i ∧ (ρ.f 74 _ _ _).i ≤ 4
      rw [h1]
      exact chkN_rng _ _
    · refine (hcall _ _ a0 a1 n0 n1 w hw).mono ?_
      rintro e w' ⟨rfl, hb⟩
      refine ⟨?_, hb⟩
      show _ = Ending.returned (.tuple #[.string (ρ.f 73 _ _ _).s, .int .i64 (ρ.f 74 _ _ _).i])
      rw [h0, h1, ppV_chk]
      rfl
  · cases hs
def cqSel (c : Cx) : List SV → Option (List Tm × SV × List Bd)
  | [.one (.agg [.int .u32 a, .int .i64 n])] => some (pfxOk c a n, .one (.c (.int .i64 (.ap 74 a n (.il 0)))), [⟨.ap 74 a n (.il 0), 0, 4⟩])
  | _ => none
theorem cqSel_ok {ρ : Env} {f : FuncId} (ho : ρ.o 0 = libT) (h1 : ∀ x y z, ρ.f 74 x y z = dI (chkN x.i y.i))
    (hcall : ∀ (a n : Int), 0 ≤ a → a ≤ 4294967295 → -9223372036854775808 ≤ n → n ≤ 9223372036854775807 → ∀ w, Calls Tryd.prog f #[pfV a n] w (RetP fun v w' => v = .int .i64 (chkN a n) ∧ Below w.heap.size w w')) : (libSp f cqSel).Ok Tryd.prog ρ := by
  refine libSp_ok ho fun {c xs m v bs} hs hc hm β w hw => ?_
  unfold cqSel at hs
  split at hs
  · rename_i a n
    injection hs with hs
    injection hs with e1 hs
    injection hs with e2 e3
    subst e1 e2 e3
    obtain ⟨⟨a0, a1⟩, n0, n1⟩ := pfxOk_ok hc hm
    refine ⟨fun y hy => ?_, ?_⟩
    · rw [List.mem_singleton] at hy
      subst hy
      show (0 : Int) ≤ (ρ.f 74 _ _ _).i ∧ (ρ.f 74 _ _ _).i ≤ 4
      rw [h1]
      exact chkN_rng _ _
    · refine (hcall _ _ a0 a1 n0 n1 w).mono ?_
      rintro e w' ⟨v, rfl, rfl, hb⟩
      refine ⟨?_, hb⟩
      show _ = Ending.returned (.int .i64 (ρ.f 74 _ _ _).i)
      rw [h1]
      rfl
  · cases hs
def hqSel (c : Cx) : List SV → Option (List Tm × SV × List Bd)
  | [.one (.agg [.int .u32 a, .int .i64 n]), .one (.c (.int .u32 x))] => some (pfxOk c a n ++ (need c (.le (.il 0) x) ++ need c (.le x (.il 4294967295))), .one (.c (.bool (.ap 75 a n x))), [])
  | _ => none
theorem hqSel_ok {ρ : Env} {f : FuncId} (ho : ρ.o 0 = libT) (h1 : ∀ x y z, ρ.f 75 x y z = dB (hsN x.i y.i z.i))
    (hcall : ∀ (a n x : Int), 0 ≤ a → a ≤ 4294967295 → -9223372036854775808 ≤ n → n ≤ 9223372036854775807 → 0 ≤ x → x ≤ 4294967295 → ∀ w, Calls Tryd.prog f #[pfV a n, .int .u32 x] w (RetP fun v w' => v = .bool (hsN a n x) ∧ Below w.heap.size w w')) : (libSp f hqSel).Ok Tryd.prog ρ := by
  refine libSp_ok ho fun {c xs m v bs} hs hc hm β w hw => ?_
  unfold hqSel at hs
  split at hs
  · rename_i a n x
    injection hs with hs
    injection hs with e1 hs
    injection hs with e2 e3
    subst e1 e2 e3
    obtain ⟨⟨a0, a1⟩, n0, n1⟩ := pfxOk_ok hc hm.l
    have q1 := need_ok hc hm.r.l
    have q2 := need_ok hc hm.r.r
    rw [t_le, i_il] at q1 q2
    refine ⟨fun y hy => (by cases hy), ?_⟩
    refine (hcall _ _ _ a0 a1 n0 n1 q1 q2 w).mono ?_
    rintro e w' ⟨v, rfl, rfl, hb⟩
    refine ⟨?_, hb⟩
    show _ = Ending.returned (.bool (ρ.f 75 _ _ _).b)
    rw [h1]
    rfl
  · cases hs
def gF : Nat → Dn → Dn → Dn → Dn := fun n x y z => match n with
  | 70 => dI (qfV x.s).1.1
  | 71 => dI (qfV x.s).1.2
  | 72 => dI (qfV x.s).2
  | 73 => dS (ppV x.i y.i).1
  | 74 => dI (chkN x.i y.i)
  | 75 => dB (hsN x.i y.i z.i)
  | _ => x
def gSps : List Sy.Spec := [libSp 9 qsSel, libSp 10 qsSel, libSp 11 pqSel, libSp 12 pqSel, libSp 13 cqSel, libSp 14 cqSel, libSp 15 hqSel, libSp 16 hqSel]
def gE (a n : Int) (s : ByteArray) (x : Int) : Env := { mkEnv0 [] [] [] [] with i := fun j => if j = 20 then a else if j = 21 then n else if j = 22 then x else 0, s := fun j => if j = 40 then s else none8, f := gF, o := fun _ => libT }
def gA : List SV := [.one (.agg [.int .u32 (.iv 20), .int .i64 (.iv 21)]), .one (.c (.str (.sv 40))), .one (.c (.int .u32 (.iv 22)))]
def gBs : List Bd := [⟨.iv 20, 0, 4294967295⟩, ⟨.iv 21, -9223372036854775808, 9223372036854775807⟩, ⟨.iv 22, 0, 4294967295⟩, ⟨.len (.sv 40), 0, 4294967280⟩]
def gRun (P : Program) (fn : Func) : Rs := run P gSps 10 400 2 (.code (bodyOf fn)) (enterS fn gA (libS gBs 60))
theorem gSps_ok {ρ : Env} (ho : ρ.o 0 = libT) (hf : ρ.f = gF) : ∀ q ∈ gSps, q.Ok Tryd.prog ρ := by
  intro q hq
  simp only [gSps, List.mem_cons, List.not_mem_nil, or_false] at hq
  rcases hq with rfl | rfl | rfl | rfl | rfl | rfl | rfl | rfl
  · exact qsSel_ok ho (fun _ _ _ => by rw [hf]; rfl) (fun _ _ _ => by rw [hf]; rfl) (fun _ _ _ => by rw [hf]; rfl) fun s hs w hw => px_calls s hs hw
  · exact qsSel_ok ho (fun _ _ _ => by rw [hf]; rfl) (fun _ _ _ => by rw [hf]; rfl) (fun _ _ _ => by rw [hf]; rfl) fun s hs w hw => qf_calls s hs hw
  · exact pqSel_ok ho (fun _ _ _ => by rw [hf]; rfl) (fun _ _ _ => by rw [hf]; rfl) fun a n a0 a1 n0 n1 w hw => pp_calls a0 a1 n0 n1 hw
  · exact pqSel_ok ho (fun _ _ _ => by rw [hf]; rfl) (fun _ _ _ => by rw [hf]; rfl) fun a n a0 a1 n0 n1 w hw => rq_calls a0 a1 n0 n1 hw
  · exact cqSel_ok ho (fun _ _ _ => by rw [hf]; rfl) fun a n a0 a1 n0 n1 w => ck_calls a0 a1 n0 n1 w
  · exact cqSel_ok ho (fun _ _ _ => by rw [hf]; rfl) fun a n a0 a1 n0 n1 w => rc_calls a0 a1 n0 n1 w
  · exact hqSel_ok ho (fun _ _ _ => by rw [hf]; rfl) fun a n x a0 a1 n0 n1 x0 x1 w => ph_calls a0 a1 n0 n1 x0 x1 w
  · exact hqSel_ok ho (fun _ _ _ => by rw [hf]; rfl) fun a n x a0 a1 n0 n1 x0 x1 w => hs_calls a0 a1 n0 n1 x0 x1 w
set_option maxRecDepth 100000 in
theorem g_run : smR Tryd.prog Tryd.f4 2 (gRun Tryd.prog Tryd.f4) = some [.ret (.one (.c (.bool (.bl true)))) [libB] []] := by kernel_rfl
theorem walk_addrPrefixes {a n x : Int} (a0 : 0 ≤ a) (a1 : a ≤ 4294967295) (n0 : -9223372036854775808 ≤ n) (n1 : n ≤ 9223372036854775807) (x0 : 0 ≤ x) (x1 : x ≤ 4294967295) (s : ByteArray) (hs : s.size ≤ 4294967280) {w : World} (hw : LibW w) : Calls Tryd.prog 4 #[pfV a n, .string s, .int .u32 x] w fun e w' => e = .returned (.bool true) ∧ Below w.heap.size w w' := by
  have hM := lib_md (ρ := gE a n s x) (bs := gBs) rfl hw (cxP ⟨⟨a0, a1⟩, ⟨n0, n1⟩, ⟨x0, x1⟩, ⟨Int.natCast_nonneg _, by show ((s.size : Nat) : Int) ≤ 4294967280; omega⟩, trivial⟩ trivial) 60
  refine (calls_sm (B := ⟨gE a n s x, fun _ => False, w, libβ, 2⟩) (sp := gSps) (fun i => rfl) (gSps_ok rfl rfl) 10 400 Tryd.func4 rfl gA _ _ 2 rfl g_run hM (R := fun v w' => v = .bool true ∧ Below w.heap.size w w') ⟨?_, trivial⟩ rfl).mono ?_
  · intro _ β w2 hH
    exact ⟨rfl, Sy.Only.below_all hH.only⟩
  · rintro e w' ⟨v, rfl, rfl, hb⟩
    exact ⟨rfl, hb⟩
end Go.Proofs.YtdkgekmjkindmaaDoor
