/- AddrParses: the law's run. -/
import Derived.Test.YtdkgekmjkindmaaDoorAd9
namespace Go.Proofs.YtdkgekmjkindmaaDoor
open Go.RowKit Go.Lib Sy
set_option linter.unusedVariables false
set_option linter.unusedSimpArgs false
theorem rf_rng (s : ByteArray) : (0 ≤ (rfV s).1 ∧ (rfV s).1 ≤ 4294967295) ∧ ((rfV s).2 = 0 ∨ (rfV s).2 = 4) := by
  have hlast : (rfV s).2 = 0 ∨ rfV s = (0, 4) := by
    unfold rfV rfL
    split
    · split
      · exact .inr rfl
      · exact .inl rfl
    · exact .inr rfl
  rcases hlast with h | h
  · obtain ⟨_, _, h0, h1⟩ := rf_ok (a := (rfV s).1) (s := s) (by rw [← h])
    exact ⟨⟨h0, h1⟩, .inl h⟩
  · rw [h]
    exact ⟨⟨by decide, by decide⟩, .inr rfl⟩
def psSel (c : Cx) : List SV → Option (List Tm × SV × List Bd)
  | [.one (.c (.str x))] => some (need c (.le (.len x) (.il 4294967280)), .tup [.c (.int .u32 (apI 60 x)), .c (.int .i64 (apI 61 x))], [⟨apI 60 x, 0, 4294967295⟩, ⟨apI 61 x, 0, 4⟩])
  | _ => none
theorem psSel_ok {ρ : Env} {f : FuncId} (ho : ρ.o 0 = libT) (h0 : ∀ x y z, ρ.f 60 x y z = dI (rfV x.s).1) (h1 : ∀ x y z, ρ.f 61 x y z = dI (rfV x.s).2)
    (hcall : ∀ (s : ByteArray), s.size < 4294967281 → ∀ w, LibW w → Calls Tryd.prog f #[.string s] w fun e w' => e = .returned (.tuple #[.int .u32 (rfV s).1, .int .i64 (rfV s).2]) ∧ Below w.heap.size w w') : (libSp f psSel).Ok Tryd.prog ρ := by
  refine libSp_ok ho fun {c xs m v bs} hs hc hm β w hw => ?_
  unfold psSel at hs
  split at hs
  · rename_i x
    injection hs with hs
    injection hs with e1 hs
    injection hs with e2 e3
    subst e1 e2 e3
    have q := need_ok hc hm
    rw [t_le, i_il] at q
    change (((den ρ x).s.size : Nat) : Int) ≤ 4294967280 at q
    obtain ⟨r1, r2⟩ := rf_rng (den ρ x).s
    refine ⟨fun y hy => ?_, ?_⟩
    · simp only [List.mem_cons, List.not_mem_nil, or_false] at hy
      rcases hy with rfl | rfl
      · show (0 : Int) ≤ (ρ.f 60 _ _ _).i ∧ (ρ.f 60 _ _ _).i ≤ 4294967295
        rw [h0]
        exact r1
      · show (0 : Int) ≤ (ρ.f 61 _ _ _).i ∧ (ρ.f 61 _ _ _).i ≤ 4
        rw [h1]
        change 0 ≤ (rfV (den ρ x).s).2 ∧ (rfV (den ρ x).s).2 ≤ 4
        omega
    · refine (hcall (den ρ x).s (by omega) w hw).mono ?_
      rintro e w' ⟨rfl, hb⟩
      refine ⟨?_, hb⟩
      show _ = Ending.returned (.tuple #[.int .u32 (ρ.f 60 _ _ _).i, .int .i64 (ρ.f 61 _ _ _).i])
      rw [h0, h1]
      rfl
  · cases hs
def psSp : Sy.Spec := libSp 5 psSel
def rpSp : Sy.Spec := libSp 6 psSel
theorem psSp_ok {ρ : Env} (ho : ρ.o 0 = libT) (h0 : ∀ x y z, ρ.f 60 x y z = dI (rfV x.s).1) (h1 : ∀ x y z, ρ.f 61 x y z = dI (rfV x.s).2) : psSp.Ok Tryd.prog ρ :=
  psSel_ok ho h0 h1 fun s hs w hw => by have := parse_calls s hs hw; rwa [ps_rf] at this
theorem rpSp_ok {ρ : Env} (ho : ρ.o 0 = libT) (h0 : ∀ x y z, ρ.f 60 x y z = dI (rfV x.s).1) (h1 : ∀ x y z, ρ.f 61 x y z = dI (rfV x.s).2) : rpSp.Ok Tryd.prog ρ :=
  psSel_ok ho h0 h1 fun s hs w hw => aparse_calls s hs hw
theorem prS_size {a : Int} (a0 : 0 ≤ a) (a1 : a ≤ 4294967295) : (prS a).size ≤ 15 := by
  have s3 := dig_size (n := a / 16777216) (by omega) (by omega)
  have s2 := dig_size (n := a / 65536 % 256) (by omega) (by omega)
  have s1 := dig_size (n := a / 256 % 256) (by omega) (by omega)
  have s0 := dig_size (n := a % 256) (by omega) (by omega)
  have sd : dot.size = 1 := rfl
  unfold prS
  simp only [ByteArray.size_append]
  omega
def prSel (c : Cx) : List SV → Option (List Tm × SV × List Bd)
  | [.one (.c (.int .u32 t))] => some (need c (.le (.il 0) t) ++ need c (.le t (.il 4294967295)), .one (.c (.str (apI 62 t))), [⟨.len (apI 62 t), 0, 15⟩])
  | _ => none
theorem prSel_ok {ρ : Env} {f : FuncId} (ho : ρ.o 0 = libT) (h0 : ∀ x y z, ρ.f 62 x y z = dS (prS x.i))
    (hcall : ∀ (a : Int), 0 ≤ a → a ≤ 4294967295 → ∀ w, LibW w → Calls Tryd.prog f #[.int .u32 a] w fun e w' => e = .returned (.string (prS a)) ∧ Below w.heap.size w w') : (libSp f prSel).Ok Tryd.prog ρ := by
  refine libSp_ok ho fun {c xs m v bs} hs hc hm β w hw => ?_
  unfold prSel at hs
  split at hs
  · rename_i t
    injection hs with hs
    injection hs with e1 hs
    injection hs with e2 e3
    subst e1 e2 e3
    have q1 := need_ok hc hm.l
    have q2 := need_ok hc hm.r
    rw [t_le, i_il] at q1 q2
    refine ⟨fun y hy => ?_, ?_⟩
    · rw [List.mem_singleton] at hy
      subst hy
      show (0 : Int) ≤ (((ρ.f 62 _ _ _).s.size : Nat) : Int) ∧ (((ρ.f 62 _ _ _).s.size : Nat) : Int) ≤ 15
      rw [h0]
      have := prS_size q1 q2
      exact ⟨Int.natCast_nonneg _, by exact_mod_cast this⟩
    · refine (hcall (den ρ t).i q1 q2 w hw).mono ?_
      rintro e w' ⟨rfl, hb⟩
      refine ⟨?_, hb⟩
      show _ = Ending.returned (.string (ρ.f 62 _ _ _).s)
      rw [h0]
      rfl
  · cases hs
def pnSp : Sy.Spec := libSp 7 prSel
def anSp : Sy.Spec := libSp 8 prSel
theorem pnSp_ok {ρ : Env} (ho : ρ.o 0 = libT) (h0 : ∀ x y z, ρ.f 62 x y z = dS (prS x.i)) : pnSp.Ok Tryd.prog ρ := prSel_ok ho h0 fun a a0 a1 w hw => print_calls a0 a1 hw
theorem anSp_ok {ρ : Env} (ho : ρ.o 0 = libT) (h0 : ∀ x y z, ρ.f 62 x y z = dS (prS x.i)) : anSp.Ok Tryd.prog ρ := prSel_ok ho h0 fun a a0 a1 w hw => aprint_calls a0 a1 hw
def lwF : Nat → Dn → Dn → Dn → Dn := fun n x y z => match n with
  | 50 => dS (digS x.i)
  | 60 => dI (rfV x.s).1
  | 61 => dI (rfV x.s).2
  | 62 => dS (prS x.i)
  | _ => x
def lwE (a : Int) (s : ByteArray) : Env := { mkEnv0 [] [] [] [] with i := fun j => if j = 20 then a else 0, s := fun j => if j = 40 then s else none8, f := lwF, o := fun _ => libT }
def lwA : List SV := [.one (.c (.int .u32 (.iv 20))), .one (.c (.str (.sv 40)))]
def lwRun (P : Program) (fn : Func) : Rs := run P [psSp, rpSp, pnSp, anSp] 10 400 2 (.code (bodyOf fn)) (enterS fn lwA (libS [⟨.iv 20, 0, 4294967295⟩, ⟨.len (.sv 40), 0, 4294967280⟩] 50))
set_option maxRecDepth 100000 in
theorem lw_run : smR Tryd.prog Tryd.f3 2 (lwRun Tryd.prog Tryd.f3) = some [.ret (.one (.c (.bool (.bl true)))) [libB] []] := by kernel_rfl
theorem walk_addrParses {a : Int} (a0 : 0 ≤ a) (a1 : a ≤ 4294967295) (s : ByteArray) (hs : s.size ≤ 4294967280) {w : World} (hw : LibW w) : Calls Tryd.prog 3 #[.int .u32 a, .string s] w fun e w' => e = .returned (.bool true) ∧ Below w.heap.size w w' := by
  have hM := lib_md (ρ := lwE a s) (bs := [⟨.iv 20, 0, 4294967295⟩, ⟨.len (.sv 40), 0, 4294967280⟩]) rfl hw (cxP ⟨⟨a0, a1⟩, ⟨Int.natCast_nonneg _, by show ((s.size : Nat) : Int) ≤ 4294967280; omega⟩, trivial⟩ trivial) 50
  refine (calls_sm (B := ⟨lwE a s, fun _ => False, w, libβ, 2⟩) (sp := [psSp, rpSp, pnSp, anSp]) (fun i => rfl) ?_ 10 400 Tryd.func3 rfl lwA _ _ 2 rfl lw_run hM (R := fun v w' => v = .bool true ∧ Below w.heap.size w w') ⟨?_, trivial⟩ rfl).mono ?_
  · intro q hq
    simp only [List.mem_cons, List.not_mem_nil, or_false] at hq
    rcases hq with rfl | rfl | rfl | rfl
    · exact psSp_ok rfl (fun _ _ _ => rfl) fun _ _ _ => rfl
    · exact rpSp_ok rfl (fun _ _ _ => rfl) fun _ _ _ => rfl
    · exact pnSp_ok rfl fun _ _ _ => rfl
    · exact anSp_ok rfl fun _ _ _ => rfl
  · intro _ β w2 hH
    exact ⟨rfl, Sy.Only.below_all hH.only⟩
  · rintro e w' ⟨v, rfl, rfl, hb⟩
    exact ⟨rfl, hb⟩
end Go.Proofs.YtdkgekmjkindmaaDoor
