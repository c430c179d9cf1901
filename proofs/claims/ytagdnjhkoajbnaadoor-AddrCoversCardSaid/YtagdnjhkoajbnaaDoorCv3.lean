/- Cover: the reference's halving. Printed by gen_cv.py. -/
import Derived.Test.YtagdnjhkoajbnaaDoorCv2
namespace Go.Proofs.YtagdnjhkoajbnaaDoor
open Go.RowKit Sy
set_option linter.unusedVariables false
set_option linter.unusedSimpArgs false

def cvBs : List Bd := [⟨.iv 0, 0, 4294967295⟩, ⟨.iv 1, 0, 32⟩, ⟨.iv 2, 0, 4294967295⟩, ⟨.iv 3, 0, 4294967295⟩, ⟨.iv 9, -1, 31⟩]
def cvA : List SV := [.one (.agg [.int .u32 (.iv 0), .int .i64 (.iv 1)]), .one (.c (.int .u64 (.iv 2))), .one (.c (.int .u64 (.iv 3)))]
def cvSt : Sy.St := ⟨[], [], ⟨cvBs, []⟩, 50⟩
set_option maxRecDepth 100000 in
theorem cv_run : smR Tryd.prog Tryd.f9 50 (run Tryd.prog [cvSp 9] 10 400 50 (.code (bodyOf Tryd.f9)) (enterS Tryd.f9 cvA cvSt)) = some [
    (.ret (.one (.c .nslc)) [] [(.lt (.add (.add (.iv 0) (.pw (.sub (.il 32) (.iv 1)))) (.il (-1))) (.iv 2)), (.not (.lt (.iv 3) (.iv 0)))]),
    (.ret (.one (.c (.slc 96 0 (.il 1) (.il 1)))) [⟨96, 29, [(.int .u32 (.iv 0)), (.int .i64 (.iv 1))], true, .none, .no⟩] [(.le (.add (.add (.iv 0) (.pw (.sub (.il 32) (.iv 1)))) (.il (-1))) (.iv 3)), (.le (.iv 2) (.iv 0)), (.not (.lt (.add (.add (.iv 0) (.pw (.sub (.il 32) (.iv 1)))) (.il (-1))) (.iv 2))), (.not (.lt (.iv 3) (.iv 0)))]),
    (.must (.le (.il 0) (.sub (.il 32) (.add (.iv 1) (.il 1)))) [(.not (.le (.add (.add (.iv 0) (.pw (.sub (.il 32) (.iv 1)))) (.il (-1))) (.iv 3))), (.le (.iv 2) (.iv 0)), (.not (.lt (.add (.add (.iv 0) (.pw (.sub (.il 32) (.iv 1)))) (.il (-1))) (.iv 2))), (.not (.lt (.iv 3) (.iv 0)))]),
    (.must (.le (.il 0) (.sub (.il 32) (.add (.iv 1) (.il 1)))) [(.not (.le (.add (.add (.iv 0) (.pw (.sub (.il 32) (.iv 1)))) (.il (-1))) (.iv 3))), (.le (.iv 2) (.iv 0)), (.not (.lt (.add (.add (.iv 0) (.pw (.sub (.il 32) (.iv 1)))) (.il (-1))) (.iv 2))), (.not (.lt (.iv 3) (.iv 0)))]),
    (.must (.le (.il 0) (.iv 9)) [(.le (.il 0) (.sub (.il 32) (.add (.iv 1) (.il 1)))), (.not (.le (.add (.add (.iv 0) (.pw (.sub (.il 32) (.iv 1)))) (.il (-1))) (.iv 3))), (.le (.iv 2) (.iv 0)), (.not (.lt (.add (.add (.iv 0) (.pw (.sub (.il 32) (.iv 1)))) (.il (-1))) (.iv 2))), (.not (.lt (.iv 3) (.iv 0)))]),
    (.must (.eq (.add (.add (.iv 1) (.il 1)) (.iv 9)) (.il 32)) [(.le (.il 0) (.iv 9)), (.le (.il 0) (.sub (.il 32) (.add (.iv 1) (.il 1)))), (.not (.le (.add (.add (.iv 0) (.pw (.sub (.il 32) (.iv 1)))) (.il (-1))) (.iv 3))), (.le (.iv 2) (.iv 0)), (.not (.lt (.add (.add (.iv 0) (.pw (.sub (.il 32) (.iv 1)))) (.il (-1))) (.iv 2))), (.not (.lt (.iv 3) (.iv 0)))]),
    (.must (.le (.add (.iv 0) (.pw (.iv 9))) (.il 4294967296)) [(.eq (.add (.add (.iv 1) (.il 1)) (.iv 9)) (.il 32)), (.le (.il 0) (.iv 9)), (.le (.il 0) (.sub (.il 32) (.add (.iv 1) (.il 1)))), (.not (.le (.add (.add (.iv 0) (.pw (.sub (.il 32) (.iv 1)))) (.il (-1))) (.iv 3))), (.le (.iv 2) (.iv 0)), (.not (.lt (.add (.add (.iv 0) (.pw (.sub (.il 32) (.iv 1)))) (.il (-1))) (.iv 2))), (.not (.lt (.iv 3) (.iv 0)))]),
    (.must (.le (.add (.md (.add (.iv 0) (.wrap .u64 (.pw (.sub (.il 32) (.add (.iv 1) (.il 1)))))) (.il 4294967296)) (.pw (.iv 9))) (.il 4294967296)) [(.le (.add (.iv 0) (.pw (.iv 9))) (.il 4294967296)), (.eq (.add (.add (.iv 1) (.il 1)) (.iv 9)) (.il 32)), (.le (.il 0) (.iv 9)), (.le (.il 0) (.sub (.il 32) (.add (.iv 1) (.il 1)))), (.not (.le (.add (.add (.iv 0) (.pw (.sub (.il 32) (.iv 1)))) (.il (-1))) (.iv 3))), (.le (.iv 2) (.iv 0)), (.not (.lt (.add (.add (.iv 0) (.pw (.sub (.il 32) (.iv 1)))) (.il (-1))) (.iv 2))), (.not (.lt (.iv 3) (.iv 0)))]),
    (.ret (.one (.c (.slt 156 2 (.il 0) (.add (.tb .len (.ap 62 (.tb (.cons (.int .u32)) (.iv 0) (.tb (.cons (.int .i64)) (.add (.iv 1) (.il 1)) (.tb .row (.il 0) (.il 0) (.il 0)) (.il 0)) (.il 0)) (.iv 2) (.iv 3)) (.il 0) (.il 0)) (.tb .len (.ap 62 (.tb (.cons (.int .u32)) (.md (.add (.iv 0) (.wrap .u64 (.pw (.sub (.il 32) (.add (.iv 1) (.il 1)))))) (.il 4294967296)) (.tb (.cons (.int .i64)) (.add (.iv 1) (.il 1)) (.tb .row (.il 0) (.il 0) (.il 0)) (.il 0)) (.il 0)) (.iv 2) (.iv 3)) (.il 0) (.il 0))) (.il 0)))) [⟨156, 29, [], true, .none, (.tab pxLv (.tb .app (.ap 62 (.tb (.cons (.int .u32)) (.iv 0) (.tb (.cons (.int .i64)) (.add (.iv 1) (.il 1)) (.tb .row (.il 0) (.il 0) (.il 0)) (.il 0)) (.il 0)) (.iv 2) (.iv 3)) (.ap 62 (.tb (.cons (.int .u32)) (.md (.add (.iv 0) (.wrap .u64 (.pw (.sub (.il 32) (.add (.iv 1) (.il 1)))))) (.il 4294967296)) (.tb (.cons (.int .i64)) (.add (.iv 1) (.il 1)) (.tb .row (.il 0) (.il 0) (.il 0)) (.il 0)) (.il 0)) (.iv 2) (.iv 3)) (.il 0)))⟩] [(.le (.add (.md (.add (.iv 0) (.wrap .u64 (.pw (.sub (.il 32) (.add (.iv 1) (.il 1)))))) (.il 4294967296)) (.pw (.iv 9))) (.il 4294967296)), (.le (.add (.iv 0) (.pw (.iv 9))) (.il 4294967296)), (.eq (.add (.add (.iv 1) (.il 1)) (.iv 9)) (.il 32)), (.le (.il 0) (.iv 9)), (.le (.il 0) (.sub (.il 32) (.add (.iv 1) (.il 1)))), (.not (.le (.add (.add (.iv 0) (.pw (.sub (.il 32) (.iv 1)))) (.il (-1))) (.iv 3))), (.le (.iv 2) (.iv 0)), (.not (.lt (.add (.add (.iv 0) (.pw (.sub (.il 32) (.iv 1)))) (.il (-1))) (.iv 2))), (.not (.lt (.iv 3) (.iv 0)))]),
    (.must (.le (.il 0) (.sub (.il 32) (.add (.iv 1) (.il 1)))) [(.not (.le (.iv 2) (.iv 0))), (.not (.lt (.add (.add (.iv 0) (.pw (.sub (.il 32) (.iv 1)))) (.il (-1))) (.iv 2))), (.not (.lt (.iv 3) (.iv 0)))]),
    (.must (.le (.il 0) (.sub (.il 32) (.add (.iv 1) (.il 1)))) [(.not (.le (.iv 2) (.iv 0))), (.not (.lt (.add (.add (.iv 0) (.pw (.sub (.il 32) (.iv 1)))) (.il (-1))) (.iv 2))), (.not (.lt (.iv 3) (.iv 0)))]),
    (.must (.le (.il 0) (.iv 9)) [(.le (.il 0) (.sub (.il 32) (.add (.iv 1) (.il 1)))), (.not (.le (.iv 2) (.iv 0))), (.not (.lt (.add (.add (.iv 0) (.pw (.sub (.il 32) (.iv 1)))) (.il (-1))) (.iv 2))), (.not (.lt (.iv 3) (.iv 0)))]),
    (.must (.eq (.add (.add (.iv 1) (.il 1)) (.iv 9)) (.il 32)) [(.le (.il 0) (.iv 9)), (.le (.il 0) (.sub (.il 32) (.add (.iv 1) (.il 1)))), (.not (.le (.iv 2) (.iv 0))), (.not (.lt (.add (.add (.iv 0) (.pw (.sub (.il 32) (.iv 1)))) (.il (-1))) (.iv 2))), (.not (.lt (.iv 3) (.iv 0)))]),
    (.must (.le (.add (.iv 0) (.pw (.iv 9))) (.il 4294967296)) [(.eq (.add (.add (.iv 1) (.il 1)) (.iv 9)) (.il 32)), (.le (.il 0) (.iv 9)), (.le (.il 0) (.sub (.il 32) (.add (.iv 1) (.il 1)))), (.not (.le (.iv 2) (.iv 0))), (.not (.lt (.add (.add (.iv 0) (.pw (.sub (.il 32) (.iv 1)))) (.il (-1))) (.iv 2))), (.not (.lt (.iv 3) (.iv 0)))]),
    (.must (.le (.add (.md (.add (.iv 0) (.wrap .u64 (.pw (.sub (.il 32) (.add (.iv 1) (.il 1)))))) (.il 4294967296)) (.pw (.iv 9))) (.il 4294967296)) [(.le (.add (.iv 0) (.pw (.iv 9))) (.il 4294967296)), (.eq (.add (.add (.iv 1) (.il 1)) (.iv 9)) (.il 32)), (.le (.il 0) (.iv 9)), (.le (.il 0) (.sub (.il 32) (.add (.iv 1) (.il 1)))), (.not (.le (.iv 2) (.iv 0))), (.not (.lt (.add (.add (.iv 0) (.pw (.sub (.il 32) (.iv 1)))) (.il (-1))) (.iv 2))), (.not (.lt (.iv 3) (.iv 0)))]),
    (.ret (.one (.c (.slt 134 2 (.il 0) (.add (.tb .len (.ap 62 (.tb (.cons (.int .u32)) (.iv 0) (.tb (.cons (.int .i64)) (.add (.iv 1) (.il 1)) (.tb .row (.il 0) (.il 0) (.il 0)) (.il 0)) (.il 0)) (.iv 2) (.iv 3)) (.il 0) (.il 0)) (.tb .len (.ap 62 (.tb (.cons (.int .u32)) (.md (.add (.iv 0) (.wrap .u64 (.pw (.sub (.il 32) (.add (.iv 1) (.il 1)))))) (.il 4294967296)) (.tb (.cons (.int .i64)) (.add (.iv 1) (.il 1)) (.tb .row (.il 0) (.il 0) (.il 0)) (.il 0)) (.il 0)) (.iv 2) (.iv 3)) (.il 0) (.il 0))) (.il 0)))) [⟨134, 29, [], true, .none, (.tab pxLv (.tb .app (.ap 62 (.tb (.cons (.int .u32)) (.iv 0) (.tb (.cons (.int .i64)) (.add (.iv 1) (.il 1)) (.tb .row (.il 0) (.il 0) (.il 0)) (.il 0)) (.il 0)) (.iv 2) (.iv 3)) (.ap 62 (.tb (.cons (.int .u32)) (.md (.add (.iv 0) (.wrap .u64 (.pw (.sub (.il 32) (.add (.iv 1) (.il 1)))))) (.il 4294967296)) (.tb (.cons (.int .i64)) (.add (.iv 1) (.il 1)) (.tb .row (.il 0) (.il 0) (.il 0)) (.il 0)) (.il 0)) (.iv 2) (.iv 3)) (.il 0)))⟩] [(.le (.add (.md (.add (.iv 0) (.wrap .u64 (.pw (.sub (.il 32) (.add (.iv 1) (.il 1)))))) (.il 4294967296)) (.pw (.iv 9))) (.il 4294967296)), (.le (.add (.iv 0) (.pw (.iv 9))) (.il 4294967296)), (.eq (.add (.add (.iv 1) (.il 1)) (.iv 9)) (.il 32)), (.le (.il 0) (.iv 9)), (.le (.il 0) (.sub (.il 32) (.add (.iv 1) (.il 1)))), (.not (.le (.iv 2) (.iv 0))), (.not (.lt (.add (.add (.iv 0) (.pw (.sub (.il 32) (.iv 1)))) (.il (-1))) (.iv 2))), (.not (.lt (.iv 3) (.iv 0)))]),
    (.ret (.one (.c .nslc)) [] [(.lt (.iv 3) (.iv 0))])] := by kernel_rfl
def cvEnv (m s x y : Nat) : Env := { mkEnv0 [] [] [] [] with
  i := fun n => if n = 0 then (s : Int) else if n = 1 then ((32 - m : Nat) : Int) else if n = 2 then (x : Int) else if n = 3 then (y : Int) else if n = 9 then (m : Int) - 1 else 0
  f := cvF }
theorem halve_one {m s f t : Nat} (h : ¬ (s > t ∨ s + 2 ^ m - 1 < f)) (h2 : s ≥ f ∧ s + 2 ^ m - 1 ≤ t) : halve m s f t = [(s, 32 - m)] := by
  cases m with
  | zero => rw [halve, if_neg h]
  | succ m => rw [halve, if_neg h, if_pos h2]
theorem halve_two {m s f t : Nat} (h : ¬ (s > t ∨ s + 2 ^ (m + 1) - 1 < f)) (h2 : ¬ (s ≥ f ∧ s + 2 ^ (m + 1) - 1 ≤ t)) : halve (m + 1) s f t = halve m s f t ++ halve m (s + 2 ^ m) f t := by
  rw [halve, if_neg h, if_neg h2]
theorem cv_den {ρ : Env} (hF : ρ.f = cvF) {a b x y : Tm} {k s f t : Nat} (hk : k ≤ 32) (hs : (den ρ a).i = (s : Int)) (hs2 : s ≤ 4294967295) (hb : (den ρ b).i = ((32 - k : Nat) : Int)) (hx : (den ρ x).i = (f : Int)) (hy : (den ρ y).i = (t : Int)) : (den ρ (.ap 62 (pxT a b) x y)).c = pxRows (halve k s f t) := by
  show (ρ.f 62 _ _ _).c = _
  rw [hF]
  show pxRows (halve (32 - (IntKind.i64.wrap (den ρ b).i).toNat) (IntKind.u32.wrap (den ρ a).i).toNat (den ρ x).i.toNat (den ρ y).i.toNat) = _
  rw [hs, hb, hx, hy, wrap_in (k := .i64) (by show (-9223372036854775808 : Int) ≤ _; omega) (by show _ ≤ (9223372036854775807 : Int); omega), wrap_in (k := .u32) (by show (0 : Int) ≤ _; omega) (by show _ ≤ (4294967295 : Int); omega)]
  simp only [Int.toNat_natCast]
  rw [show 32 - (32 - k) = k from by omega]
set_option maxHeartbeats 2000000 in
theorem cv_step (m : Nat) (hm : m ≤ 32) (E : ∀ k, m = k + 1 → CvRuns Tryd.prog 9 k) : CvRuns Tryd.prog 9 m := by
  intro w s x y hs hx hy
  have hpow : (m = 0 ∧ 2 ^ m = 1 ∧ 2 ^ (m - 1) = 1) ∨ (1 ≤ m ∧ 2 ^ m = 2 * 2 ^ (m - 1) ∧ 1 ≤ 2 ^ (m - 1)) := by
    cases m with
    | zero => exact .inl ⟨rfl, rfl, rfl⟩
    | succ k => exact .inr ⟨Nat.succ_pos k, by rw [Nat.pow_succ, Nat.add_sub_cancel]; omega, Nat.two_pow_pos _⟩
  have r0 : (cvEnv m s x y).i 0 = (s : Int) := rfl
  have r1 : (cvEnv m s x y).i 1 = ((32 - m : Nat) : Int) := rfl
  have r2 : (cvEnv m s x y).i 2 = (x : Int) := rfl
  have r3 : (cvEnv m s x y).i 3 = (y : Int) := rfl
  have r9 : (cvEnv m s x y).i 9 = (m : Int) - 1 := rfl
  have pwi : ∀ n : Nat, (2 : Int) ^ n = ((2 ^ n : Nat) : Int) := fun n => by simp
  have e1 : (den (cvEnv m s x y) (.pw (.sub (.il 32) (.iv 1)))).i = ((2 ^ m : Nat) : Int) := by
    show (2 : Int) ^ ((32 : Int) - ((32 - m : Nat) : Int)).toNat = _
    rw [show ((32 : Int) - ((32 - m : Nat) : Int)).toNat = m from by omega, pwi]
  have e9 : (den (cvEnv m s x y) (.pw (.iv 9))).i = ((2 ^ (m - 1) : Nat) : Int) := by
    show (2 : Int) ^ ((m : Int) - 1).toNat = _
    rw [show ((m : Int) - 1).toNat = m - 1 from by omega, pwi]
  have e3 : (den (cvEnv m s x y) (.wrap .u64 (.pw (.sub (.il 32) (.add (.iv 1) (.il 1)))))).i = ((2 ^ (m - 1) : Nat) : Int) := by
    show IntKind.u64.wrap ((2 : Int) ^ ((32 : Int) - (((32 - m : Nat) : Int) + 1)).toNat) = _
    rw [show ((32 : Int) - (((32 - m : Nat) : Int) + 1)).toNat = m - 1 from by omega, pwi]
    exact wrap_in (k := .u64) (by show (0 : Int) ≤ _; omega) (by show _ ≤ (18446744073709551615 : Int); omega)
  have hcx : cvSt.cx.ok (cvEnv m s x y) := by
    refine ⟨fun z hz => ?_, fun t ht => by cases ht⟩
    change z ∈ [_, _, _, _, _] at hz
    simp only [List.mem_cons, List.not_mem_nil, or_false] at hz
    rcases hz with rfl | rfl | rfl | rfl | rfl
    · show (0 : Int) ≤ (s : Int) ∧ (s : Int) ≤ 4294967295
      omega
    · show (0 : Int) ≤ ((32 - m : Nat) : Int) ∧ ((32 - m : Nat) : Int) ≤ 32
      omega
    · show (0 : Int) ≤ (x : Int) ∧ (x : Int) ≤ 4294967295
      omega
    · show (0 : Int) ≤ (y : Int) ∧ (y : Int) ≤ 4294967295
      omega
    · show (-1 : Int) ≤ (m : Int) - 1 ∧ (m : Int) - 1 ≤ 31
      omega
  refine calls_sm (B := ⟨cvEnv m s x y, fun _ => False, w, fun _ => 0, 50⟩) (sp := [cvSp 9]) (fun i => rfl) (fun q hq => ?_) 10 400 Tryd.func9 rfl cvA cvSt _ 50 rfl cv_run (Md.start hcx) ?_ rfl
  · rw [List.mem_singleton.1 hq]
    refine cvSp_ok rfl fun h => ?_
    rw [r9] at h
    rw [show ((cvEnv m s x y).i 9).toNat = m - 1 from by rw [r9]; omega]
    exact E (m - 1) (by omega)
  refine ⟨?_, ?_, ?_, ?_, ?_, ?_, ?_, ?_, ?_, ?_, ?_, ?_, ?_, ?_, ?_, ?_, ?_, trivial⟩
  · intro hpc β w' hH
    replace hpc : pcs (cvEnv m s x y) _ := hpc
    simp only [pcs, t_lt, t_le, t_eq, t_not, i_add, i_sub, i_md, e1, e3, e9, i_iv, i_il, r0, r1, r2, r3, r9, and_true] at hpc
    show NewTab w w' (.slice none 0 0) _ _ _
    rw [halve_none m s x y (by omega)]
    exact newTab_nil (Sy.Only.below_all hH.only) _ _
  · intro hpc β w' hH
    replace hpc : pcs (cvEnv m s x y) _ := hpc
    simp only [pcs, t_lt, t_le, t_eq, t_not, i_add, i_sub, i_md, e1, e3, e9, i_iv, i_il, r0, r1, r2, r3, r9, and_true] at hpc
    show NewTab w w' _ _ _ _
    rw [halve_one (by omega) (by omega)]
    exact newTab_rowh hH (List.mem_cons_self ..) ⟨⟨(s : Int), rfl, wf_of (k := .u32) (by show (0 : Int) ≤ _; omega) (by show _ ≤ (4294967295 : Int); omega)⟩, ⟨((32 - m : Nat) : Int), rfl, wf_of (k := .i64) (by show (-9223372036854775808 : Int) ≤ _; omega) (by show _ ≤ (9223372036854775807 : Int); omega)⟩, trivial⟩
  · intro hpc
    replace hpc : pcs (cvEnv m s x y) _ := hpc
    show (den (cvEnv m s x y) _).b = true
    simp only [pcs, t_lt, t_le, t_eq, t_not, i_add, i_sub, i_md, e1, e3, e9, i_iv, i_il, r0, r1, r2, r3, r9, and_true] at hpc ⊢
    omega
  · intro hpc
    replace hpc : pcs (cvEnv m s x y) _ := hpc
    show (den (cvEnv m s x y) _).b = true
    simp only [pcs, t_lt, t_le, t_eq, t_not, i_add, i_sub, i_md, e1, e3, e9, i_iv, i_il, r0, r1, r2, r3, r9, and_true] at hpc ⊢
    omega
  · intro hpc
    replace hpc : pcs (cvEnv m s x y) _ := hpc
    show (den (cvEnv m s x y) _).b = true
    simp only [pcs, t_lt, t_le, t_eq, t_not, i_add, i_sub, i_md, e1, e3, e9, i_iv, i_il, r0, r1, r2, r3, r9, and_true] at hpc ⊢
    omega
  · intro hpc
    replace hpc : pcs (cvEnv m s x y) _ := hpc
    show (den (cvEnv m s x y) _).b = true
    simp only [pcs, t_lt, t_le, t_eq, t_not, i_add, i_sub, i_md, e1, e3, e9, i_iv, i_il, r0, r1, r2, r3, r9, and_true] at hpc ⊢
    omega
  · intro hpc
    replace hpc : pcs (cvEnv m s x y) _ := hpc
    show (den (cvEnv m s x y) _).b = true
    simp only [pcs, t_lt, t_le, t_eq, t_not, i_add, i_sub, i_md, e1, e3, e9, i_iv, i_il, r0, r1, r2, r3, r9, and_true] at hpc ⊢
    omega
  · intro hpc
    replace hpc : pcs (cvEnv m s x y) _ := hpc
    show (den (cvEnv m s x y) _).b = true
    simp only [pcs, t_lt, t_le, t_eq, t_not, i_add, i_sub, i_md, e1, e3, e9, i_iv, i_il, r0, r1, r2, r3, r9, and_true] at hpc ⊢
    omega
  · intro hpc β w' hH
    replace hpc : pcs (cvEnv m s x y) _ := hpc
    simp only [pcs, t_lt, t_le, t_eq, t_not, i_add, i_sub, i_md, e1, e3, e9, i_iv, i_il, r0, r1, r2, r3, r9, and_true] at hpc
    have hb : (den (cvEnv m s x y) (.add (.iv 1) (.il 1))).i = ((32 - (m - 1) : Nat) : Int) := by
      rw [i_add, i_iv, r1, i_il]
      omega
    have c1 := cv_den (ρ := cvEnv m s x y) rfl (a := .iv 0) (b := .add (.iv 1) (.il 1)) (x := .iv 2) (y := .iv 3) (k := m - 1) (s := s) (f := x) (t := y) (by omega) rfl (by omega) hb rfl rfl
    have c2 := cv_den (ρ := cvEnv m s x y) rfl (a := .md (.add (.iv 0) (.wrap .u64 (.pw (.sub (.il 32) (.add (.iv 1) (.il 1)))))) (.il 4294967296)) (b := .add (.iv 1) (.il 1)) (x := .iv 2) (y := .iv 3) (k := m - 1) (s := s + 2 ^ (m - 1)) (f := x) (t := y) (by omega) (by rw [i_md, i_add, e3, i_iv, r0, i_il]; omega) (by omega) hb rfl rfl
    have hh : halve m s x y = halve (m - 1) s x y ++ halve (m - 1) (s + 2 ^ (m - 1)) x y := by
      obtain ⟨k, rfl⟩ : ∃ k, m = k + 1 := ⟨m - 1, by omega⟩
      rw [Nat.add_sub_cancel] at *
      exact halve_two (by omega) (by omega)
    show NewTab w w' _ _ _ _
    have hc : (den (cvEnv m s x y) (.tb .app (.ap 62 (pxT (.iv 0) (.add (.iv 1) (.il 1))) (.iv 2) (.iv 3)) (.ap 62 (pxT (.md (.add (.iv 0) (.wrap .u64 (.pw (.sub (.il 32) (.add (.iv 1) (.il 1)))))) (.il 4294967296)) (.add (.iv 1) (.il 1))) (.iv 2) (.iv 3)) (.il 0))).c = pxRows (halve m s x y) := by
      rw [c_app, c1, c2, hh]
      simp [pxRows]
    rw [← hc]
    refine newTab_hp hH (l := 156) (L := .add (tlen (.ap 62 (pxT (.iv 0) (.add (.iv 1) (.il 1))) (.iv 2) (.iv 3))) (tlen (.ap 62 (pxT (.md (.add (.iv 0) (.wrap .u64 (.pw (.sub (.il 32) (.add (.iv 1) (.il 1)))))) (.il 4294967296)) (.add (.iv 1) (.il 1))) (.iv 2) (.iv 3)))) (List.mem_cons_self ..) ?_
    rw [i_add, c_app, List.length_append]
    rfl
  · intro hpc
    replace hpc : pcs (cvEnv m s x y) _ := hpc
    show (den (cvEnv m s x y) _).b = true
    simp only [pcs, t_lt, t_le, t_eq, t_not, i_add, i_sub, i_md, e1, e3, e9, i_iv, i_il, r0, r1, r2, r3, r9, and_true] at hpc ⊢
    omega
  · intro hpc
    replace hpc : pcs (cvEnv m s x y) _ := hpc
    show (den (cvEnv m s x y) _).b = true
    simp only [pcs, t_lt, t_le, t_eq, t_not, i_add, i_sub, i_md, e1, e3, e9, i_iv, i_il, r0, r1, r2, r3, r9, and_true] at hpc ⊢
    omega
  · intro hpc
    replace hpc : pcs (cvEnv m s x y) _ := hpc
    show (den (cvEnv m s x y) _).b = true
    simp only [pcs, t_lt, t_le, t_eq, t_not, i_add, i_sub, i_md, e1, e3, e9, i_iv, i_il, r0, r1, r2, r3, r9, and_true] at hpc ⊢
    omega
  · intro hpc
    replace hpc : pcs (cvEnv m s x y) _ := hpc
    show (den (cvEnv m s x y) _).b = true
    simp only [pcs, t_lt, t_le, t_eq, t_not, i_add, i_sub, i_md, e1, e3, e9, i_iv, i_il, r0, r1, r2, r3, r9, and_true] at hpc ⊢
    omega
  · intro hpc
    replace hpc : pcs (cvEnv m s x y) _ := hpc
    show (den (cvEnv m s x y) _).b = true
    simp only [pcs, t_lt, t_le, t_eq, t_not, i_add, i_sub, i_md, e1, e3, e9, i_iv, i_il, r0, r1, r2, r3, r9, and_true] at hpc ⊢
    omega
  · intro hpc
    replace hpc : pcs (cvEnv m s x y) _ := hpc
    show (den (cvEnv m s x y) _).b = true
    simp only [pcs, t_lt, t_le, t_eq, t_not, i_add, i_sub, i_md, e1, e3, e9, i_iv, i_il, r0, r1, r2, r3, r9, and_true] at hpc ⊢
    omega
  · intro hpc β w' hH
    replace hpc : pcs (cvEnv m s x y) _ := hpc
    simp only [pcs, t_lt, t_le, t_eq, t_not, i_add, i_sub, i_md, e1, e3, e9, i_iv, i_il, r0, r1, r2, r3, r9, and_true] at hpc
    have hb : (den (cvEnv m s x y) (.add (.iv 1) (.il 1))).i = ((32 - (m - 1) : Nat) : Int) := by
      rw [i_add, i_iv, r1, i_il]
      omega
    have c1 := cv_den (ρ := cvEnv m s x y) rfl (a := .iv 0) (b := .add (.iv 1) (.il 1)) (x := .iv 2) (y := .iv 3) (k := m - 1) (s := s) (f := x) (t := y) (by omega) rfl (by omega) hb rfl rfl
    have c2 := cv_den (ρ := cvEnv m s x y) rfl (a := .md (.add (.iv 0) (.wrap .u64 (.pw (.sub (.il 32) (.add (.iv 1) (.il 1)))))) (.il 4294967296)) (b := .add (.iv 1) (.il 1)) (x := .iv 2) (y := .iv 3) (k := m - 1) (s := s + 2 ^ (m - 1)) (f := x) (t := y) (by omega) (by rw [i_md, i_add, e3, i_iv, r0, i_il]; omega) (by omega) hb rfl rfl
    have hh : halve m s x y = halve (m - 1) s x y ++ halve (m - 1) (s + 2 ^ (m - 1)) x y := by
      obtain ⟨k, rfl⟩ : ∃ k, m = k + 1 := ⟨m - 1, by omega⟩
      rw [Nat.add_sub_cancel] at *
      exact halve_two (by omega) (by omega)
    show NewTab w w' _ _ _ _
    have hc : (den (cvEnv m s x y) (.tb .app (.ap 62 (pxT (.iv 0) (.add (.iv 1) (.il 1))) (.iv 2) (.iv 3)) (.ap 62 (pxT (.md (.add (.iv 0) (.wrap .u64 (.pw (.sub (.il 32) (.add (.iv 1) (.il 1)))))) (.il 4294967296)) (.add (.iv 1) (.il 1))) (.iv 2) (.iv 3)) (.il 0))).c = pxRows (halve m s x y) := by
      rw [c_app, c1, c2, hh]
      simp [pxRows]
    rw [← hc]
    refine newTab_hp hH (l := 134) (L := .add (tlen (.ap 62 (pxT (.iv 0) (.add (.iv 1) (.il 1))) (.iv 2) (.iv 3))) (tlen (.ap 62 (pxT (.md (.add (.iv 0) (.wrap .u64 (.pw (.sub (.il 32) (.add (.iv 1) (.il 1)))))) (.il 4294967296)) (.add (.iv 1) (.il 1))) (.iv 2) (.iv 3)))) (List.mem_cons_self ..) ?_
    rw [i_add, c_app, List.length_append]
    rfl
  · intro hpc β w' hH
    replace hpc : pcs (cvEnv m s x y) _ := hpc
    simp only [pcs, t_lt, t_le, t_eq, t_not, i_add, i_sub, i_md, e1, e3, e9, i_iv, i_il, r0, r1, r2, r3, r9, and_true] at hpc
    show NewTab w w' (.slice none 0 0) _ _ _
    rw [halve_none m s x y (by omega)]
    exact newTab_nil (Sy.Only.below_all hH.only) _ _
theorem cv_all : ∀ m, m ≤ 32 → CvRuns Tryd.prog 9 m
  | 0, h => cv_step 0 h fun k hk => by omega
  | m + 1, h => cv_step (m + 1) h fun k hk => by
    obtain rfl : m = k := by omega
    exact cv_all m (by omega)
end Go.Proofs.YtagdnjhkoajbnaaDoor
