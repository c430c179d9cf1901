/- The law OutqSays: a round. Printed by gen_oql.py. -/
import Derived.Test.YthjigajielhkfaaOqS
namespace Go.Proofs.Ythjigajielhkfaa
open Go.RowKit Sy
set_option linter.unusedVariables false
set_option linter.unusedSimpArgs false

def outB (n : Nat) : List Nat → Code → Bool
  | 0 :: p, .seq a _ => outB n p a
  | 1 :: p, .seq _ b => outB n p b
  | 2 :: p, .block id a => !(Nat.beq n id) && outB n p a
  | 2 :: p, .scope a => outB n p a
  | _, _ => true
theorem outB_ok (n : Nat) : ∀ (p : List Nat) (c : Code), outB n p c = true → outOf n p c
  | [], c, _ => by cases c <;> exact trivial
  | d :: p, c, h => by
    rcases d with _ | _ | _ | d
    · cases c <;> first | exact outB_ok n p _ h | exact trivial
    · cases c <;> first | exact outB_ok n p _ h | exact trivial
    · cases c <;> try exact trivial
      · rename_i id x
        change (!(Nat.beq n id) && outB n p x) = true at h
        rw [Bool.and_eq_true, Bool.not_eq_true'] at h
        exact ⟨fun e => (by rw [e, Nat.beq_refl] at h; cases h.1), outB_ok n p _ h.2⟩
      · exact outB_ok n p _ h
    · cases c <;> exact trivial
structure OqI (vl : Value) (len : Nat) (ρ : Env) : Prop where
  g : ρ.good
  v : ρ.v 0 = vl
  i0 : 0 ≤ ρ.i 0
  i1 : ρ.i 1 = (len : Int)
  le : ρ.i 0 ≤ ρ.i 1
  rel : OqAt ρ (2048 * ρ.i 0)
structure OqJ (vl : Value) (len : Nat) (k : Int) (ρ : Env) : Prop where
  g : ρ.good
  v : ρ.v 0 = vl
  i0 : 0 ≤ ρ.i 0
  i1 : ρ.i 1 = (len : Int)
  lt : ρ.i 0 < ρ.i 1
  k : ρ.i 0 = k
  b9 : ρ.b 9 = true
  rel : OqAt ρ (2048 * ρ.i 0 + 2048)
theorem oqCx_ok {ρ : Env} {K : Int} (hr : OqAt ρ K) (hK : K ≤ 288230376151713792) (h0 : 0 ≤ ρ.i 0) (h1 : ρ.i 0 ≤ ρ.i 1) (h2 : ρ.i 1 ≤ 140737488355328) : oqCx.ok ρ := by
  have hs := hr.size
  have hb := b1_bd (ρ.b 0)
  obtain ⟨g1, g2, g3, g4, g5, g6, g7, g8, g9⟩ := hr
  refine ⟨fun x hx => ?_, fun t ht => ?_⟩
  · change x ∈ [_, _, _, _, _, _, _, _, _] at hx
    simp only [List.mem_cons, List.not_mem_nil, or_false] at hx
    rcases hx with rfl | rfl | rfl | rfl | rfl | rfl | rfl | rfl | rfl
    · show (0 : Int) ≤ ρ.i 0 ∧ ρ.i 0 ≤ 140737488355328
      omega
    · show (0 : Int) ≤ ρ.i 1 ∧ ρ.i 1 ≤ 140737488355328
      omega
    · show (0 : Int) ≤ ρ.i 2 ∧ ρ.i 2 ≤ 1152921504606846976
      omega
    · show (0 : Int) ≤ ρ.i 3 ∧ ρ.i 3 ≤ 1152921504606846976
      omega
    · show (0 : Int) ≤ ρ.i 4 ∧ ρ.i 4 ≤ 1152921504606846976
      omega
    · show (1 : Int) ≤ ρ.i 5 ∧ ρ.i 5 ≤ 1152921504606846976
      omega
    · show (0 : Int) ≤ ρ.i 6 ∧ ρ.i 6 ≤ 2048
      omega
    · show (0 : Int) ≤ ((ρ.s 1).size : Int) ∧ ((ρ.s 1).size : Int) ≤ 2048
      omega
    · show (0 : Int) ≤ ((ρ.s 0).size : Int) ∧ ((ρ.s 0).size : Int) ≤ 576460752303423488
      omega
  · change t ∈ [_, _] at ht
    simp only [List.mem_cons, List.not_mem_nil, or_false] at ht
    rcases ht with rfl | rfl
    · show decide (ρ.i 6 ≤ ((ρ.s 1).size : Int)) = true
      exact decide_eq_true (by omega)
    · show decide (((ρ.s 1).size : Int) ≤ ρ.i 6) = true
      exact decide_eq_true (by omega)
theorem OqI.cx {vl : Value} {len : Nat} {ρ : Env} (h : OqI vl len ρ) (hl : len ≤ 140737488355328) : oqT.cx.ok ρ := by
  have h1 := h.i1
  have h2 := h.le
  exact oqCx_ok h.rel (by omega) h.i0 h.le (by omega)
theorem OqJ.cx {vl : Value} {len : Nat} {k : Int} {ρ : Env} (h : OqJ vl len k ρ) (hl : len ≤ 140737488355328) : oqT2.cx.ok ρ := by
  have h1 := h.i1
  have h2 := h.lt
  exact oqCx_ok h.rel (by omega) h.i0 (by omega) (by omega)
theorem oq_code : ∃ A1 A2 A6 A7 Y Z A31 : Code, oqB Try.f5 = .seq A1 (.seq A2 (.seq (.block 1 (.seq A6 (.seq A7 (.seq Y Z)))) A31)) ∧ oqRest Try.f5 = .seq A7 (.seq Y Z) :=
  ⟨Sy.sub [0] (oqB Try.f5), Sy.sub [1, 0] (oqB Try.f5), Sy.sub [1, 1, 0, 2, 0] (oqB Try.f5), Sy.sub [1, 1, 0, 2, 1, 0] (oqB Try.f5), Sy.sub [1, 1, 0, 2, 1, 1, 0] (oqB Try.f5), Sy.sub [1, 1, 0, 2, 1, 1, 1] (oqB Try.f5), Sy.sub [1, 1, 1] (oqB Try.f5), by kernel_rfl, by kernel_rfl⟩
def oqMu (len : Nat) (ρ : Env) : Nat := ((len : Int) - ρ.i 0).toNat
abbrev OqQ (w0 : World) (vl : Value) (len m : Nat) (Q : Exit → Act → World → Prop) : Exit → Act → World → Prop := Exit.then (NextR (fun _ => False) w0 (fun _ => 0) 0 oqT (OqI vl len) (oqMu len) m) Q
set_option maxRecDepth 100000 in
set_option maxHeartbeats 2000000 in
theorem oq_check {w0 : World} {vl : Value} {len : Nat} (hl : len ≤ 140737488355328) {Q : Exit → Act → World → Prop} {k : Int} {m : Nat} (hm : m = ((len : Int) - k).toNat) {ρ : Env} (hJ : OqJ vl len k ρ) {β : Bn} {a : Act} {w : World} (hM : Md ρ (fun _ => False) w0 (fun _ => 0) 0 oqT2 β a w) :
    (Sy.sub [1, 1] (oqRest Try.f5)).wp Try.prog (ctx Try.prog [1, 1] (oqRest Try.f5) (ctx Try.prog [1, 1, 0, 2] (oqB Try.f5) (OqQ w0 vl len m Q))) a w := by
  obtain ⟨A1, A2, A6, A7, Y, Z, A31, hB, hR⟩ := oq_code
  have key : ctx Try.prog [1, 1, 0, 2, 1, 1, 0] (oqB Try.f5) (OqQ w0 vl len m Q) Ex.normal.to a w := by
    refine round_aft .normal (T := oqT) (r := oqChk Try.prog Try.f5) rfl oq_chk (I := OqI vl len) (fun ρ h => h.cx hl) hJ.g (fun q hq => by cases hq) ?_ hM
    have hs := hJ.rel.size
    have hb := b1_bd (ρ.b 0)
    have j0 := hJ.i0
    have j1 := hJ.i1
    have j2 := hJ.lt
    have j3 := hJ.k
    have j9 := hJ.b9
    obtain ⟨g1, g2, g3, g4, g5, g6, g7, g8, g9⟩ := hJ.rel
    have nxt : ∀ β, ∀ u, OqI vl len { ρ.sub β [.i 0 (.add (.iv 0) (.il 1))] with u := u } ∧ oqMu len { ρ.sub β [.i 0 (.add (.iv 0) (.il 1))] with u := u } < m := fun β u => by
      refine ⟨⟨hJ.g, hJ.v, ?_, hJ.i1, ?_, ?_⟩, ?_⟩
      · show 0 ≤ ρ.i 0 + 1
        omega
      · show ρ.i 0 + 1 ≤ ρ.i 1
        omega
      · have := hJ.rel
        rw [show 2048 * ρ.i 0 + 2048 = 2048 * (ρ.i 0 + 1) from by omega] at this
        exact this
      · show ((len : Int) - (ρ.i 0 + 1)).toNat < m
        omega
    refine ⟨?_, ?_, ?_, ?_, ?_, ?_, trivial⟩
    · exact fun _ β u => nxt β u
    all_goals first
      | exact fun _ β u => nxt β u
      | (intro hpc
         replace hpc : pcs ρ _ := hpc
         exfalso
         simp only [pcs, t_lt, t_le, t_eq, t_not, t_bv, i_iv, i_il, i_add, i_sub, i_min, i_max, i_len, s_sv, j9, and_true, true_and, not_true_eq_false, false_and] at hpc
         done)
      | (intro hpc
         replace hpc : pcs ρ _ := hpc
         exfalso
         simp only [pcs, t_lt, t_le, t_eq, t_not, t_bv, i_iv, i_il, i_add, i_sub, i_min, i_max, i_len, s_sv, j9, and_true, true_and] at hpc
         omega)
  rw [hR]
  rw [hB] at key ⊢
  exact key
structure OqK (vl : Value) (len : Nat) (k : Int) (ρ : Env) : Prop where
  g : ρ.good
  v : ρ.v 0 = vl
  i0 : 0 ≤ ρ.i 0
  i1 : ρ.i 1 = (len : Int)
  lt : ρ.i 0 < ρ.i 1
  k : ρ.i 0 = k
  rel : OqAt ρ (2048 * ρ.i 0)
  x0 : -9223372036854775808 ≤ ρ.i 100 ∧ ρ.i 100 ≤ 9223372036854775807
  x1 : -9223372036854775808 ≤ ρ.i 101 ∧ ρ.i 101 ≤ 9223372036854775807
  x2 : -9223372036854775808 ≤ ρ.i 102 ∧ ρ.i 102 ≤ 9223372036854775807
  x4 : (ρ.s 104).size ≤ 9223372036854775807
theorem OqK.xcx {vl : Value} {len : Nat} {k : Int} {ρ : Env} (h : OqK vl len k ρ) (hl : len ≤ 140737488355328) {kd : Int} (hk : ρ.i 100 % 8 = kd) : Cx.ok ρ ⟨oqXBs kd ++ oqCx.bs, oqCx.pc⟩ := by
  have h1 := h.i1
  have h2 := h.lt
  have hc := oqCx_ok h.rel (by omega) h.i0 (by omega) (by omega)
  refine ⟨fun x hx => ?_, hc.pc⟩
  rcases List.mem_append.1 hx with hx | hx
  · change x ∈ [_, _, _, _, _] at hx
    simp only [List.mem_cons, List.not_mem_nil, or_false] at hx
    rcases hx with rfl | rfl | rfl | rfl | rfl
    · show kd ≤ ρ.i 100 % 8 ∧ ρ.i 100 % 8 ≤ kd
      omega
    · exact h.x0
    · exact h.x1
    · exact h.x2
    · show (0 : Int) ≤ ((ρ.s 104).size : Int) ∧ ((ρ.s 104).size : Int) ≤ 9223372036854775807
      have := h.x4
      omega
  · exact hc.bs x hx
set_option maxRecDepth 100000 in
theorem oq_op_wp {kd : Nat} {ys : List Sh} (hrun : shR 0 (some oqT2) (oqOp Try.prog Try.f5 kd) = some ys) {w0 : World} {vl : Value} {len : Nat} (hl : len ≤ 140737488355328) {Q : Exit → Act → World → Prop} {k : Int} {m : Nat} (hm : m = ((len : Int) - k).toNat) {ρ : Env} (hK : OqK vl len k ρ) (hkd : ρ.i 100 % 8 = (kd : Int)) (hsp : ∀ q ∈ opSps kd, q.Ok Try.prog ρ)
    (hd : AllL (Sh.done (oqOp Try.prog Try.f5 kd) ⟨ρ, fun _ => False, w0, fun _ => 0, 0⟩ (Qpre Try.prog [1, 1] (oqRest Try.f5) (ctx Try.prog [1, 1, 0, 2] (oqB Try.f5) (OqQ w0 vl len m Q))) fun l β => ∀ u, OqJ vl len k { ρ.sub β l with u := u }) ys)
    {β : Bn} {a : Act} {w : World} (hM : Md ρ (fun _ => False) w0 (fun _ => 0) 0 (oqX0 Try.prog Try.f5) β a w) : (oqRest Try.f5).wp Try.prog (ctx Try.prog [1, 1, 0, 2] (oqB Try.f5) (OqQ w0 vl len m Q)) a w := by
  have hM' : Md ρ (fun _ => False) w0 (fun _ => 0) 0 (oqX Try.prog Try.f5 kd) β a w := ⟨hM.act, hM.hp, hM.ne, hM.may, hK.xcx hl hkd, hM.only, hM.old⟩
  exact part_preT (T := oqT2) (r := oqOp Try.prog Try.f5 kd) rfl hrun (OqJ vl len k) (fun ρ h => h.cx hl) hK.g hsp hd (fun ρ' hJ β a w hM => oq_check hl hm hJ hM) hM'
theorem b1_true : b1 true = 1 := rfl
theorem b1_false : b1 false = 0 := rfl
section
variable {vl : Value} {len : Nat} {k K : Int} {ρ : Env} {B : Bs} {Q : Exit → Act → World → Prop} {r : Rs}
theorem oq_case2 (hB : B.ρ = ρ) (hK : OqK vl len k ρ) : AllL (Sh.done r B Q fun l β => ∀ u, OqJ vl len k { ρ.sub β l with u := u }) [.back [.b 9 (.bl true), .b 0 (.bl true), .b 0 (.bl true)] [(.le (.iv 6) (.len (.sv 1))), (.le (.len (.sv 1)) (.iv 6))]] :=
  ⟨fun _ β u => ⟨hK.g, hK.v, hK.i0, hK.i1, hK.lt, hK.k, rfl, (hK.rel.close).mono (by show (2048 : Int) * ρ.i 0 ≤ 2048 * ρ.i 0 + 2048; omega)⟩, trivial⟩
theorem oq_case5 (hB : B.ρ = ρ) (hK : OqK vl len k ρ) : AllL (Sh.done r B Q fun l β => ∀ u, OqJ vl len k { ρ.sub β l with u := u }) [.back [.b 9 (.bl true), .i 3 (.iv 2), .i 3 (.iv 2)] [(.le (.iv 6) (.len (.sv 1))), (.le (.len (.sv 1)) (.iv 6))]] :=
  ⟨fun _ β u => ⟨hK.g, hK.v, hK.i0, hK.i1, hK.lt, hK.k, rfl, (hK.rel.back).mono (by show (2048 : Int) * ρ.i 0 ≤ 2048 * ρ.i 0 + 2048; omega)⟩, trivial⟩
theorem oq_case6 (hB : B.ρ = ρ) (hK : OqK vl len k ρ) : AllL (Sh.done r B Q fun l β => ∀ u, OqJ vl len k { ρ.sub β l with u := u }) [.back [.b 9 (.bl true)] [(.le (.iv 6) (.len (.sv 1))), (.le (.len (.sv 1)) (.iv 6))]] :=
  ⟨fun _ β u => ⟨hK.g, hK.v, hK.i0, hK.i1, hK.lt, hK.k, rfl, hK.rel.mono (by show (2048 : Int) * ρ.i 0 ≤ 2048 * ρ.i 0 + 2048; omega)⟩, trivial⟩
set_option maxHeartbeats 2000000 in
theorem oq_case3 (hB : B.ρ = ρ) (hK : OqK vl len k ρ) (hc : ρ.i 3 + ((ρ.s 303).size : Int) + b1 (ρ.b 301) + b1 (ρ.b 302) ≤ ((ρ.s 0).size : Int) + 1 + b1 (ρ.b 0)) : AllL (Sh.done r B Q fun l β => ∀ u, OqJ vl len k { ρ.sub β l with u := u })
    [(.back [(.b 9 (.bl true)), (.i 3 (.add (.add (.iv 3) (.len (.sv 303))) (.il 2))), (.i 4 (.ite (.lt (.iv 4) (.add (.add (.iv 3) (.len (.sv 303))) (.il 2))) (.add (.add (.iv 3) (.len (.sv 303))) (.il 2)) (.iv 4))), (.i 3 (.add (.add (.iv 3) (.len (.sv 303))) (.il 2))), (.i 4 (.ite (.lt (.iv 4) (.add (.add (.iv 3) (.len (.sv 303))) (.il 2))) (.add (.add (.iv 3) (.len (.sv 303))) (.il 2)) (.iv 4)))] [(.bv 302), (.bv 301), (.le (.iv 6) (.len (.sv 1))), (.le (.len (.sv 1)) (.iv 6))]),
    (.back [(.b 9 (.bl true)), (.i 3 (.add (.add (.iv 3) (.len (.sv 303))) (.il 1))), (.i 4 (.ite (.lt (.iv 4) (.add (.add (.iv 3) (.len (.sv 303))) (.il 1))) (.add (.add (.iv 3) (.len (.sv 303))) (.il 1)) (.iv 4))), (.i 3 (.add (.add (.iv 3) (.len (.sv 303))) (.il 1))), (.i 4 (.ite (.lt (.iv 4) (.add (.add (.iv 3) (.len (.sv 303))) (.il 1))) (.add (.add (.iv 3) (.len (.sv 303))) (.il 1)) (.iv 4)))] [(.not (.bv 302)), (.bv 301), (.le (.iv 6) (.len (.sv 1))), (.le (.len (.sv 1)) (.iv 6))]),
    (.back [(.b 9 (.bl true)), (.i 3 (.add (.add (.iv 3) (.len (.sv 303))) (.il 1))), (.i 4 (.ite (.lt (.iv 4) (.add (.add (.iv 3) (.len (.sv 303))) (.il 1))) (.add (.add (.iv 3) (.len (.sv 303))) (.il 1)) (.iv 4))), (.i 3 (.add (.add (.iv 3) (.len (.sv 303))) (.il 1))), (.i 4 (.ite (.lt (.iv 4) (.add (.add (.iv 3) (.len (.sv 303))) (.il 1))) (.add (.add (.iv 3) (.len (.sv 303))) (.il 1)) (.iv 4)))] [(.bv 302), (.not (.bv 301)), (.le (.iv 6) (.len (.sv 1))), (.le (.len (.sv 1)) (.iv 6))]),
    (.back [(.b 9 (.bl true)), (.i 3 (.add (.iv 3) (.len (.sv 303)))), (.i 4 (.ite (.lt (.iv 4) (.add (.iv 3) (.len (.sv 303)))) (.add (.iv 3) (.len (.sv 303))) (.iv 4))), (.i 3 (.add (.iv 3) (.len (.sv 303)))), (.i 4 (.ite (.lt (.iv 4) (.add (.iv 3) (.len (.sv 303)))) (.add (.iv 3) (.len (.sv 303))) (.iv 4)))] [(.not (.bv 302)), (.not (.bv 301)), (.le (.iv 6) (.len (.sv 1))), (.le (.len (.sv 1)) (.iv 6))])] := by
  have nx : ∀ c, ρ.i 3 ≤ c → c ≤ ((ρ.s 0).size : Int) + 1 + b1 (ρ.b 0) → ∀ s, s = max (ρ.i 4) c → OqRel (ρ.s 0) (ρ.s 1) (ρ.b 0) (ρ.i 2) c s (ρ.i 5) (ρ.i 6) (2048 * ρ.i 0 + 2048) := fun c h1 h2 s hs => by
    rw [hs]
    exact (hK.rel.next h1 h2).mono (by omega)
  refine ⟨?_, ?_, ?_, ?_, trivial⟩
  all_goals
    intro hpc β u
    rw [hB] at hpc
    simp only [pcs, t_not, t_bv, t_le, i_iv, i_len, s_sv, and_true, Bool.not_eq_true] at hpc
    refine ⟨hK.g, hK.v, hK.i0, hK.i1, hK.lt, hK.k, rfl, ?_⟩
    simp only [hpc.1, hpc.2.1, b1_true, b1_false] at hc
  · exact nx (ρ.i 3 + ((ρ.s 303).size : Int) + 2) (by omega) (by omega) _ (i_max _ _ _)
  · exact nx (ρ.i 3 + ((ρ.s 303).size : Int) + 1) (by omega) (by omega) _ (i_max _ _ _)
  · exact nx (ρ.i 3 + ((ρ.s 303).size : Int) + 1) (by omega) (by omega) _ (i_max _ _ _)
  · exact nx (ρ.i 3 + ((ρ.s 303).size : Int)) (by omega) (by omega) _ (i_max _ _ _)
set_option maxHeartbeats 4000000 in
theorem oq_case7 (hB : B.ρ = ρ) (hK : OqK vl len k ρ) : AllL (Sh.done r B Q fun l β => ∀ u, OqJ vl len k { ρ.sub β l with u := u })
    [(.back [(.b 9 (.bl true))] [(.not (.lt (.iv 101) (.add (.iv 2) (.il 1)))), (.lt (.iv 4) (.iv 101)), (.not (.le (.iv 101) (.iv 2))), (.le (.iv 6) (.len (.sv 1))), (.le (.len (.sv 1)) (.iv 6))]),
    (.back [(.b 9 (.bl true))] [(.lt (.iv 101) (.add (.iv 2) (.il 1))), (.lt (.iv 4) (.iv 101)), (.not (.le (.iv 101) (.iv 2))), (.le (.iv 6) (.len (.sv 1))), (.le (.len (.sv 1)) (.iv 6))]),
    (.must (.le (.sub (.ite (.lt (.add (.iv 5) (.iv 6)) (.iv 101)) (.add (.iv 5) (.iv 6)) (.iv 101)) (.iv 5)) (.iv 6)) [(.lt (.il 0) (.sub (.ite (.lt (.add (.iv 5) (.iv 6)) (.iv 101)) (.add (.iv 5) (.iv 6)) (.iv 101)) (.iv 5))), (.not (.lt (.iv 4) (.iv 101))), (.not (.le (.iv 101) (.iv 2))), (.le (.iv 6) (.len (.sv 1))), (.le (.len (.sv 1)) (.iv 6))]),
    (.must (.le (.add (.sub (.ite (.lt (.add (.iv 5) (.iv 6)) (.iv 101)) (.add (.iv 5) (.iv 6)) (.iv 101)) (.iv 5)) (.sub (.iv 6) (.sub (.ite (.lt (.add (.iv 5) (.iv 6)) (.iv 101)) (.add (.iv 5) (.iv 6)) (.iv 101)) (.iv 5)))) (.len (.sv 1))) [(.le (.sub (.ite (.lt (.add (.iv 5) (.iv 6)) (.iv 101)) (.add (.iv 5) (.iv 6)) (.iv 101)) (.iv 5)) (.iv 6)), (.lt (.il 0) (.sub (.ite (.lt (.add (.iv 5) (.iv 6)) (.iv 101)) (.add (.iv 5) (.iv 6)) (.iv 101)) (.iv 5))), (.not (.lt (.iv 4) (.iv 101))), (.not (.le (.iv 101) (.iv 2))), (.le (.iv 6) (.len (.sv 1))), (.le (.len (.sv 1)) (.iv 6))]),
    (.must (.le (.len (.cut (.sv 1) (.sub (.ite (.lt (.add (.iv 5) (.iv 6)) (.iv 101)) (.add (.iv 5) (.iv 6)) (.iv 101)) (.iv 5)) (.add (.sub (.ite (.lt (.add (.iv 5) (.iv 6)) (.iv 101)) (.add (.iv 5) (.iv 6)) (.iv 101)) (.iv 5)) (.sub (.iv 6) (.sub (.ite (.lt (.add (.iv 5) (.iv 6)) (.iv 101)) (.add (.iv 5) (.iv 6)) (.iv 101)) (.iv 5)))))) (.il 140737488355328)) [(.le (.add (.sub (.ite (.lt (.add (.iv 5) (.iv 6)) (.iv 101)) (.add (.iv 5) (.iv 6)) (.iv 101)) (.iv 5)) (.sub (.iv 6) (.sub (.ite (.lt (.add (.iv 5) (.iv 6)) (.iv 101)) (.add (.iv 5) (.iv 6)) (.iv 101)) (.iv 5)))) (.len (.sv 1))), (.le (.sub (.ite (.lt (.add (.iv 5) (.iv 6)) (.iv 101)) (.add (.iv 5) (.iv 6)) (.iv 101)) (.iv 5)) (.iv 6)), (.lt (.il 0) (.sub (.ite (.lt (.add (.iv 5) (.iv 6)) (.iv 101)) (.add (.iv 5) (.iv 6)) (.iv 101)) (.iv 5))), (.not (.lt (.iv 4) (.iv 101))), (.not (.le (.iv 101) (.iv 2))), (.le (.iv 6) (.len (.sv 1))), (.le (.len (.sv 1)) (.iv 6))]),
    (.back [(.b 9 (.bl true)), (.i 6 (.len (.cut (.sv 1) (.sub (.ite (.lt (.add (.iv 5) (.iv 6)) (.iv 101)) (.add (.iv 5) (.iv 6)) (.iv 101)) (.iv 5)) (.add (.sub (.ite (.lt (.add (.iv 5) (.iv 6)) (.iv 101)) (.add (.iv 5) (.iv 6)) (.iv 101)) (.iv 5)) (.sub (.iv 6) (.sub (.ite (.lt (.add (.iv 5) (.iv 6)) (.iv 101)) (.add (.iv 5) (.iv 6)) (.iv 101)) (.iv 5))))))), (.i 5 (.add (.iv 5) (.sub (.ite (.lt (.add (.iv 5) (.iv 6)) (.iv 101)) (.add (.iv 5) (.iv 6)) (.iv 101)) (.iv 5)))), (.i 2 (.iv 101)), (.i 3 (.ite (.lt (.iv 3) (.iv 101)) (.iv 101) (.iv 3))), (.s 1 (.cut (.sv 1) (.sub (.ite (.lt (.add (.iv 5) (.iv 6)) (.iv 101)) (.add (.iv 5) (.iv 6)) (.iv 101)) (.iv 5)) (.add (.sub (.ite (.lt (.add (.iv 5) (.iv 6)) (.iv 101)) (.add (.iv 5) (.iv 6)) (.iv 101)) (.iv 5)) (.sub (.iv 6) (.sub (.ite (.lt (.add (.iv 5) (.iv 6)) (.iv 101)) (.add (.iv 5) (.iv 6)) (.iv 101)) (.iv 5)))))), (.i 2 (.iv 101)), (.i 3 (.ite (.lt (.iv 3) (.iv 101)) (.iv 101) (.iv 3)))] [(.not (.lt (.iv 101) (.add (.iv 2) (.il 1)))), (.le (.len (.cut (.sv 1) (.sub (.ite (.lt (.add (.iv 5) (.iv 6)) (.iv 101)) (.add (.iv 5) (.iv 6)) (.iv 101)) (.iv 5)) (.add (.sub (.ite (.lt (.add (.iv 5) (.iv 6)) (.iv 101)) (.add (.iv 5) (.iv 6)) (.iv 101)) (.iv 5)) (.sub (.iv 6) (.sub (.ite (.lt (.add (.iv 5) (.iv 6)) (.iv 101)) (.add (.iv 5) (.iv 6)) (.iv 101)) (.iv 5)))))) (.il 140737488355328)), (.le (.add (.sub (.ite (.lt (.add (.iv 5) (.iv 6)) (.iv 101)) (.add (.iv 5) (.iv 6)) (.iv 101)) (.iv 5)) (.sub (.iv 6) (.sub (.ite (.lt (.add (.iv 5) (.iv 6)) (.iv 101)) (.add (.iv 5) (.iv 6)) (.iv 101)) (.iv 5)))) (.len (.sv 1))), (.le (.sub (.ite (.lt (.add (.iv 5) (.iv 6)) (.iv 101)) (.add (.iv 5) (.iv 6)) (.iv 101)) (.iv 5)) (.iv 6)), (.lt (.il 0) (.sub (.ite (.lt (.add (.iv 5) (.iv 6)) (.iv 101)) (.add (.iv 5) (.iv 6)) (.iv 101)) (.iv 5))), (.not (.lt (.iv 4) (.iv 101))), (.not (.le (.iv 101) (.iv 2))), (.le (.iv 6) (.len (.sv 1))), (.le (.len (.sv 1)) (.iv 6))]),
    (.must (.bl false) [(.lt (.iv 101) (.add (.iv 2) (.il 1))), (.le (.len (.cut (.sv 1) (.sub (.ite (.lt (.add (.iv 5) (.iv 6)) (.iv 101)) (.add (.iv 5) (.iv 6)) (.iv 101)) (.iv 5)) (.add (.sub (.ite (.lt (.add (.iv 5) (.iv 6)) (.iv 101)) (.add (.iv 5) (.iv 6)) (.iv 101)) (.iv 5)) (.sub (.iv 6) (.sub (.ite (.lt (.add (.iv 5) (.iv 6)) (.iv 101)) (.add (.iv 5) (.iv 6)) (.iv 101)) (.iv 5)))))) (.il 140737488355328)), (.le (.add (.sub (.ite (.lt (.add (.iv 5) (.iv 6)) (.iv 101)) (.add (.iv 5) (.iv 6)) (.iv 101)) (.iv 5)) (.sub (.iv 6) (.sub (.ite (.lt (.add (.iv 5) (.iv 6)) (.iv 101)) (.add (.iv 5) (.iv 6)) (.iv 101)) (.iv 5)))) (.len (.sv 1))), (.le (.sub (.ite (.lt (.add (.iv 5) (.iv 6)) (.iv 101)) (.add (.iv 5) (.iv 6)) (.iv 101)) (.iv 5)) (.iv 6)), (.lt (.il 0) (.sub (.ite (.lt (.add (.iv 5) (.iv 6)) (.iv 101)) (.add (.iv 5) (.iv 6)) (.iv 101)) (.iv 5))), (.not (.lt (.iv 4) (.iv 101))), (.not (.le (.iv 101) (.iv 2))), (.le (.iv 6) (.len (.sv 1))), (.le (.len (.sv 1)) (.iv 6))]),
    (.back [(.b 9 (.bl true)), (.i 2 (.iv 101)), (.i 3 (.ite (.lt (.iv 3) (.iv 101)) (.iv 101) (.iv 3))), (.i 2 (.iv 101)), (.i 3 (.ite (.lt (.iv 3) (.iv 101)) (.iv 101) (.iv 3)))] [(.not (.lt (.iv 101) (.add (.iv 2) (.il 1)))), (.not (.lt (.il 0) (.sub (.ite (.lt (.add (.iv 5) (.iv 6)) (.iv 101)) (.add (.iv 5) (.iv 6)) (.iv 101)) (.iv 5)))), (.not (.lt (.iv 4) (.iv 101))), (.not (.le (.iv 101) (.iv 2))), (.le (.iv 6) (.len (.sv 1))), (.le (.len (.sv 1)) (.iv 6))]),
    (.must (.bl false) [(.lt (.iv 101) (.add (.iv 2) (.il 1))), (.not (.lt (.il 0) (.sub (.ite (.lt (.add (.iv 5) (.iv 6)) (.iv 101)) (.add (.iv 5) (.iv 6)) (.iv 101)) (.iv 5)))), (.not (.lt (.iv 4) (.iv 101))), (.not (.le (.iv 101) (.iv 2))), (.le (.iv 6) (.len (.sv 1))), (.le (.len (.sv 1)) (.iv 6))]),
    (.back [(.b 9 (.bl true))] [(.lt (.iv 4) (.iv 101)), (.not (.lt (.iv 101) (.add (.iv 2) (.il 1)))), (.le (.iv 101) (.iv 2)), (.le (.iv 6) (.len (.sv 1))), (.le (.len (.sv 1)) (.iv 6))]),
    (.must (.bl false) [(.not (.lt (.iv 4) (.iv 101))), (.not (.lt (.iv 101) (.add (.iv 2) (.il 1)))), (.le (.iv 101) (.iv 2)), (.le (.iv 6) (.len (.sv 1))), (.le (.len (.sv 1)) (.iv 6))]),
    (.back [(.b 9 (.bl true))] [(.lt (.iv 101) (.add (.iv 2) (.il 1))), (.le (.iv 101) (.iv 2)), (.le (.iv 6) (.len (.sv 1))), (.le (.len (.sv 1)) (.iv 6))])] := by
  have hs := hK.rel.size
  have hbb := b1_bd (ρ.b 0)
  have hr := hK.rel
  obtain ⟨g1, g2, g3, g4, g5, g6, g7, g8, g9⟩ := hK.rel
  have stay : ∀ β u, OqJ vl len k { ρ.sub β [.b 9 (.bl true)] with u := u } := fun β u => ⟨hK.g, hK.v, hK.i0, hK.i1, hK.lt, hK.k, rfl, hr.mono (by show (2048 : Int) * ρ.i 0 ≤ 2048 * ρ.i 0 + 2048; omega)⟩
  have eD : (den ρ (.sub (.ite (.lt (.add (.iv 5) (.iv 6)) (.iv 101)) (.add (.iv 5) (.iv 6)) (.iv 101)) (.iv 5))).i = min (ρ.i 5 + ρ.i 6) (ρ.i 101) - ρ.i 5 := by
    rw [i_sub, i_min, i_add, i_iv, i_iv, i_iv]
  have eM : (den ρ (.ite (.lt (.iv 3) (.iv 101)) (.iv 101) (.iv 3))).i = max (ρ.i 3) (ρ.i 101) := i_max _ _ _
  refine ⟨?_, ?_, ?_, ?_, ?_, ?_, ?_, ?_, ?_, ?_, ?_, ?_, trivial⟩
  all_goals first
    | exact fun _ β u => stay β u
    | (intro hpc
       rw [hB] at hpc ⊢
       exfalso
       simp only [pcs, t_lt, t_le, t_eq, t_not, i_iv, i_il, i_add, i_sub, i_min, i_max, i_len, s_sv, and_true] at hpc
       omega)
    | (intro hpc
       rw [hB] at hpc ⊢
       simp only [pcs, t_lt, t_le, t_eq, t_not, i_iv, i_il, i_add, i_sub, i_min, i_max, i_len, s_sv, s_cut, ByteArray.size_extract, and_true] at hpc ⊢
       omega)
    | (intro hpc β u
       rw [hB] at hpc
       simp only [pcs, t_lt, t_le, t_eq, t_not, i_iv, i_il, i_add, i_sub, i_min, i_max, i_len, s_sv, and_true] at hpc
       refine ⟨hK.g, hK.v, hK.i0, hK.i1, hK.lt, hK.k, rfl, ?_⟩
       first
         | (have h1 := (hr.ack0 (k := ρ.i 101) (by omega) (by omega) (by omega)).mono (K' := 2048 * ρ.i 0 + 2048) (by omega)
            rw [← eM] at h1
            exact h1)
         | (have h1 := (hr.ack1 (k := ρ.i 101) (d := (den ρ (.sub (.ite (.lt (.add (.iv 5) (.iv 6)) (.iv 101)) (.add (.iv 5) (.iv 6)) (.iv 101)) (.iv 5))).i) (e := (den ρ (.add (.sub (.ite (.lt (.add (.iv 5) (.iv 6)) (.iv 101)) (.add (.iv 5) (.iv 6)) (.iv 101)) (.iv 5)) (.sub (.iv 6) (.sub (.ite (.lt (.add (.iv 5) (.iv 6)) (.iv 101)) (.add (.iv 5) (.iv 6)) (.iv 101)) (.iv 5))))).i) (by omega) (by omega) eD (by rw [eD]; omega) (by show (den ρ (.sub (.ite (.lt (.add (.iv 5) (.iv 6)) (.iv 101)) (.add (.iv 5) (.iv 6)) (.iv 101)) (.iv 5))).i + (ρ.i 6 - (den ρ (.sub (.ite (.lt (.add (.iv 5) (.iv 6)) (.iv 101)) (.add (.iv 5) (.iv 6)) (.iv 101)) (.iv 5))).i) = ρ.i 6; omega) rfl).mono (K' := 2048 * ρ.i 0 + 2048) (by omega)
            rw [← eM] at h1
            exact h1))
theorem room_eq (hr : OqAt ρ K) (h0 : ρ.b 0 = false) : (den ρ (.sub (.il 2048) (.sub (.len (.sv 0)) (.ite (.lt (.ite (.lt (.il 0) (.add (.iv 2) (.il (-1)))) (.add (.iv 2) (.il (-1))) (.il 0)) (.len (.sv 0))) (.ite (.lt (.il 0) (.add (.iv 2) (.il (-1)))) (.add (.iv 2) (.il (-1))) (.il 0)) (.len (.sv 0)))))).i = 2048 - ρ.i 6 := by
  have hs := hr.size
  obtain ⟨g1, g2, g3, g4, g5, g6, g7, g8, g9⟩ := hr
  rw [h0, b1_false] at g7
  simp only [i_sub, i_min, i_max, i_add, i_il, i_iv, i_len, s_sv]
  omega
set_option maxHeartbeats 4000000 in
theorem oq_case0 (hB : B.ρ = ρ) (hK : OqK vl len k ρ) (hl : len ≤ 140737488355328) : AllL (Sh.done r B Q fun l β => ∀ u, OqJ vl len k { ρ.sub β l with u := u })
    [(.must (.le (.ite (.lt (.il 0) (.len (.sv 104))) (.il 0) (.len (.sv 104))) (.len (.sv 104))) [(.bv 0), (.le (.iv 6) (.len (.sv 1))), (.le (.len (.sv 1)) (.iv 6))]),
    (.must (.le (.add (.len (.sv 1)) (.ite (.lt (.il 0) (.len (.sv 104))) (.il 0) (.len (.sv 104)))) (.il 140737488355328)) [(.le (.ite (.lt (.il 0) (.len (.sv 104))) (.il 0) (.len (.sv 104))) (.len (.sv 104))), (.bv 0), (.le (.iv 6) (.len (.sv 1))), (.le (.len (.sv 1)) (.iv 6))]),
    (.must (.le (.add (.len (.sv 0)) (.ite (.lt (.il 0) (.len (.sv 104))) (.il 0) (.len (.sv 104)))) (.il 9223372036854775807)) [(.le (.add (.len (.sv 1)) (.ite (.lt (.il 0) (.len (.sv 104))) (.il 0) (.len (.sv 104)))) (.il 140737488355328)), (.le (.ite (.lt (.il 0) (.len (.sv 104))) (.il 0) (.len (.sv 104))) (.len (.sv 104))), (.bv 0), (.le (.iv 6) (.len (.sv 1))), (.le (.len (.sv 1)) (.iv 6))]),
    (.back [(.b 9 (.bl true)), (.i 6 (.add (.len (.sv 1)) (.ite (.lt (.il 0) (.len (.sv 104))) (.il 0) (.len (.sv 104))))), (.s 1 (.app (.sv 1) (.cut (.sv 104) (.il 0) (.ite (.lt (.il 0) (.len (.sv 104))) (.il 0) (.len (.sv 104)))))), (.s 0 (.app (.sv 0) (.cut (.sv 104) (.il 0) (.ite (.lt (.il 0) (.len (.sv 104))) (.il 0) (.len (.sv 104))))))] [(.le (.add (.len (.sv 0)) (.ite (.lt (.il 0) (.len (.sv 104))) (.il 0) (.len (.sv 104)))) (.il 9223372036854775807)), (.le (.add (.len (.sv 1)) (.ite (.lt (.il 0) (.len (.sv 104))) (.il 0) (.len (.sv 104)))) (.il 140737488355328)), (.le (.ite (.lt (.il 0) (.len (.sv 104))) (.il 0) (.len (.sv 104))) (.len (.sv 104))), (.bv 0), (.le (.iv 6) (.len (.sv 1))), (.le (.len (.sv 1)) (.iv 6))]),
    (.must (.le (.ite (.lt (.sub (.il 2048) (.iv 6)) (.len (.sv 104))) (.sub (.il 2048) (.iv 6)) (.len (.sv 104))) (.len (.sv 104))) [(.not (.bv 0)), (.le (.iv 6) (.len (.sv 1))), (.le (.len (.sv 1)) (.iv 6))]),
    (.must (.le (.add (.len (.sv 1)) (.ite (.lt (.sub (.il 2048) (.iv 6)) (.len (.sv 104))) (.sub (.il 2048) (.iv 6)) (.len (.sv 104)))) (.il 140737488355328)) [(.le (.ite (.lt (.sub (.il 2048) (.iv 6)) (.len (.sv 104))) (.sub (.il 2048) (.iv 6)) (.len (.sv 104))) (.len (.sv 104))), (.not (.bv 0)), (.le (.iv 6) (.len (.sv 1))), (.le (.len (.sv 1)) (.iv 6))]),
    (.must (.le (.il 0) (.ite (.lt (.sub (.il 2048) (.sub (.len (.sv 0)) (.ite (.lt (.ite (.lt (.il 0) (.add (.iv 2) (.il (-1)))) (.add (.iv 2) (.il (-1))) (.il 0)) (.len (.sv 0))) (.ite (.lt (.il 0) (.add (.iv 2) (.il (-1)))) (.add (.iv 2) (.il (-1))) (.il 0)) (.len (.sv 0))))) (.len (.sv 104))) (.sub (.il 2048) (.sub (.len (.sv 0)) (.ite (.lt (.ite (.lt (.il 0) (.add (.iv 2) (.il (-1)))) (.add (.iv 2) (.il (-1))) (.il 0)) (.len (.sv 0))) (.ite (.lt (.il 0) (.add (.iv 2) (.il (-1)))) (.add (.iv 2) (.il (-1))) (.il 0)) (.len (.sv 0))))) (.len (.sv 104)))) [(.le (.add (.len (.sv 1)) (.ite (.lt (.sub (.il 2048) (.iv 6)) (.len (.sv 104))) (.sub (.il 2048) (.iv 6)) (.len (.sv 104)))) (.il 140737488355328)), (.le (.ite (.lt (.sub (.il 2048) (.iv 6)) (.len (.sv 104))) (.sub (.il 2048) (.iv 6)) (.len (.sv 104))) (.len (.sv 104))), (.not (.bv 0)), (.le (.iv 6) (.len (.sv 1))), (.le (.len (.sv 1)) (.iv 6))]),
    (.must (.le (.ite (.lt (.sub (.il 2048) (.sub (.len (.sv 0)) (.ite (.lt (.ite (.lt (.il 0) (.add (.iv 2) (.il (-1)))) (.add (.iv 2) (.il (-1))) (.il 0)) (.len (.sv 0))) (.ite (.lt (.il 0) (.add (.iv 2) (.il (-1)))) (.add (.iv 2) (.il (-1))) (.il 0)) (.len (.sv 0))))) (.len (.sv 104))) (.sub (.il 2048) (.sub (.len (.sv 0)) (.ite (.lt (.ite (.lt (.il 0) (.add (.iv 2) (.il (-1)))) (.add (.iv 2) (.il (-1))) (.il 0)) (.len (.sv 0))) (.ite (.lt (.il 0) (.add (.iv 2) (.il (-1)))) (.add (.iv 2) (.il (-1))) (.il 0)) (.len (.sv 0))))) (.len (.sv 104))) (.len (.sv 104))) [(.le (.il 0) (.ite (.lt (.sub (.il 2048) (.sub (.len (.sv 0)) (.ite (.lt (.ite (.lt (.il 0) (.add (.iv 2) (.il (-1)))) (.add (.iv 2) (.il (-1))) (.il 0)) (.len (.sv 0))) (.ite (.lt (.il 0) (.add (.iv 2) (.il (-1)))) (.add (.iv 2) (.il (-1))) (.il 0)) (.len (.sv 0))))) (.len (.sv 104))) (.sub (.il 2048) (.sub (.len (.sv 0)) (.ite (.lt (.ite (.lt (.il 0) (.add (.iv 2) (.il (-1)))) (.add (.iv 2) (.il (-1))) (.il 0)) (.len (.sv 0))) (.ite (.lt (.il 0) (.add (.iv 2) (.il (-1)))) (.add (.iv 2) (.il (-1))) (.il 0)) (.len (.sv 0))))) (.len (.sv 104)))), (.le (.add (.len (.sv 1)) (.ite (.lt (.sub (.il 2048) (.iv 6)) (.len (.sv 104))) (.sub (.il 2048) (.iv 6)) (.len (.sv 104)))) (.il 140737488355328)), (.le (.ite (.lt (.sub (.il 2048) (.iv 6)) (.len (.sv 104))) (.sub (.il 2048) (.iv 6)) (.len (.sv 104))) (.len (.sv 104))), (.not (.bv 0)), (.le (.iv 6) (.len (.sv 1))), (.le (.len (.sv 1)) (.iv 6))]),
    (.must (.le (.add (.len (.sv 0)) (.ite (.lt (.sub (.il 2048) (.sub (.len (.sv 0)) (.ite (.lt (.ite (.lt (.il 0) (.add (.iv 2) (.il (-1)))) (.add (.iv 2) (.il (-1))) (.il 0)) (.len (.sv 0))) (.ite (.lt (.il 0) (.add (.iv 2) (.il (-1)))) (.add (.iv 2) (.il (-1))) (.il 0)) (.len (.sv 0))))) (.len (.sv 104))) (.sub (.il 2048) (.sub (.len (.sv 0)) (.ite (.lt (.ite (.lt (.il 0) (.add (.iv 2) (.il (-1)))) (.add (.iv 2) (.il (-1))) (.il 0)) (.len (.sv 0))) (.ite (.lt (.il 0) (.add (.iv 2) (.il (-1)))) (.add (.iv 2) (.il (-1))) (.il 0)) (.len (.sv 0))))) (.len (.sv 104)))) (.il 9223372036854775807)) [(.le (.ite (.lt (.sub (.il 2048) (.sub (.len (.sv 0)) (.ite (.lt (.ite (.lt (.il 0) (.add (.iv 2) (.il (-1)))) (.add (.iv 2) (.il (-1))) (.il 0)) (.len (.sv 0))) (.ite (.lt (.il 0) (.add (.iv 2) (.il (-1)))) (.add (.iv 2) (.il (-1))) (.il 0)) (.len (.sv 0))))) (.len (.sv 104))) (.sub (.il 2048) (.sub (.len (.sv 0)) (.ite (.lt (.ite (.lt (.il 0) (.add (.iv 2) (.il (-1)))) (.add (.iv 2) (.il (-1))) (.il 0)) (.len (.sv 0))) (.ite (.lt (.il 0) (.add (.iv 2) (.il (-1)))) (.add (.iv 2) (.il (-1))) (.il 0)) (.len (.sv 0))))) (.len (.sv 104))) (.len (.sv 104))), (.le (.il 0) (.ite (.lt (.sub (.il 2048) (.sub (.len (.sv 0)) (.ite (.lt (.ite (.lt (.il 0) (.add (.iv 2) (.il (-1)))) (.add (.iv 2) (.il (-1))) (.il 0)) (.len (.sv 0))) (.ite (.lt (.il 0) (.add (.iv 2) (.il (-1)))) (.add (.iv 2) (.il (-1))) (.il 0)) (.len (.sv 0))))) (.len (.sv 104))) (.sub (.il 2048) (.sub (.len (.sv 0)) (.ite (.lt (.ite (.lt (.il 0) (.add (.iv 2) (.il (-1)))) (.add (.iv 2) (.il (-1))) (.il 0)) (.len (.sv 0))) (.ite (.lt (.il 0) (.add (.iv 2) (.il (-1)))) (.add (.iv 2) (.il (-1))) (.il 0)) (.len (.sv 0))))) (.len (.sv 104)))), (.le (.add (.len (.sv 1)) (.ite (.lt (.sub (.il 2048) (.iv 6)) (.len (.sv 104))) (.sub (.il 2048) (.iv 6)) (.len (.sv 104)))) (.il 140737488355328)), (.le (.ite (.lt (.sub (.il 2048) (.iv 6)) (.len (.sv 104))) (.sub (.il 2048) (.iv 6)) (.len (.sv 104))) (.len (.sv 104))), (.not (.bv 0)), (.le (.iv 6) (.len (.sv 1))), (.le (.len (.sv 1)) (.iv 6))]),
    (.back [(.b 9 (.eq (.ite (.lt (.sub (.il 2048) (.iv 6)) (.len (.sv 104))) (.sub (.il 2048) (.iv 6)) (.len (.sv 104))) (.ite (.lt (.sub (.il 2048) (.sub (.len (.sv 0)) (.ite (.lt (.ite (.lt (.il 0) (.add (.iv 2) (.il (-1)))) (.add (.iv 2) (.il (-1))) (.il 0)) (.len (.sv 0))) (.ite (.lt (.il 0) (.add (.iv 2) (.il (-1)))) (.add (.iv 2) (.il (-1))) (.il 0)) (.len (.sv 0))))) (.len (.sv 104))) (.sub (.il 2048) (.sub (.len (.sv 0)) (.ite (.lt (.ite (.lt (.il 0) (.add (.iv 2) (.il (-1)))) (.add (.iv 2) (.il (-1))) (.il 0)) (.len (.sv 0))) (.ite (.lt (.il 0) (.add (.iv 2) (.il (-1)))) (.add (.iv 2) (.il (-1))) (.il 0)) (.len (.sv 0))))) (.len (.sv 104))))), (.i 6 (.add (.len (.sv 1)) (.ite (.lt (.sub (.il 2048) (.iv 6)) (.len (.sv 104))) (.sub (.il 2048) (.iv 6)) (.len (.sv 104))))), (.s 1 (.app (.sv 1) (.cut (.sv 104) (.il 0) (.ite (.lt (.sub (.il 2048) (.iv 6)) (.len (.sv 104))) (.sub (.il 2048) (.iv 6)) (.len (.sv 104)))))), (.s 0 (.app (.sv 0) (.cut (.sv 104) (.il 0) (.ite (.lt (.sub (.il 2048) (.sub (.len (.sv 0)) (.ite (.lt (.ite (.lt (.il 0) (.add (.iv 2) (.il (-1)))) (.add (.iv 2) (.il (-1))) (.il 0)) (.len (.sv 0))) (.ite (.lt (.il 0) (.add (.iv 2) (.il (-1)))) (.add (.iv 2) (.il (-1))) (.il 0)) (.len (.sv 0))))) (.len (.sv 104))) (.sub (.il 2048) (.sub (.len (.sv 0)) (.ite (.lt (.ite (.lt (.il 0) (.add (.iv 2) (.il (-1)))) (.add (.iv 2) (.il (-1))) (.il 0)) (.len (.sv 0))) (.ite (.lt (.il 0) (.add (.iv 2) (.il (-1)))) (.add (.iv 2) (.il (-1))) (.il 0)) (.len (.sv 0))))) (.len (.sv 104))))))] [(.le (.add (.len (.sv 0)) (.ite (.lt (.sub (.il 2048) (.sub (.len (.sv 0)) (.ite (.lt (.ite (.lt (.il 0) (.add (.iv 2) (.il (-1)))) (.add (.iv 2) (.il (-1))) (.il 0)) (.len (.sv 0))) (.ite (.lt (.il 0) (.add (.iv 2) (.il (-1)))) (.add (.iv 2) (.il (-1))) (.il 0)) (.len (.sv 0))))) (.len (.sv 104))) (.sub (.il 2048) (.sub (.len (.sv 0)) (.ite (.lt (.ite (.lt (.il 0) (.add (.iv 2) (.il (-1)))) (.add (.iv 2) (.il (-1))) (.il 0)) (.len (.sv 0))) (.ite (.lt (.il 0) (.add (.iv 2) (.il (-1)))) (.add (.iv 2) (.il (-1))) (.il 0)) (.len (.sv 0))))) (.len (.sv 104)))) (.il 9223372036854775807)), (.le (.ite (.lt (.sub (.il 2048) (.sub (.len (.sv 0)) (.ite (.lt (.ite (.lt (.il 0) (.add (.iv 2) (.il (-1)))) (.add (.iv 2) (.il (-1))) (.il 0)) (.len (.sv 0))) (.ite (.lt (.il 0) (.add (.iv 2) (.il (-1)))) (.add (.iv 2) (.il (-1))) (.il 0)) (.len (.sv 0))))) (.len (.sv 104))) (.sub (.il 2048) (.sub (.len (.sv 0)) (.ite (.lt (.ite (.lt (.il 0) (.add (.iv 2) (.il (-1)))) (.add (.iv 2) (.il (-1))) (.il 0)) (.len (.sv 0))) (.ite (.lt (.il 0) (.add (.iv 2) (.il (-1)))) (.add (.iv 2) (.il (-1))) (.il 0)) (.len (.sv 0))))) (.len (.sv 104))) (.len (.sv 104))), (.le (.il 0) (.ite (.lt (.sub (.il 2048) (.sub (.len (.sv 0)) (.ite (.lt (.ite (.lt (.il 0) (.add (.iv 2) (.il (-1)))) (.add (.iv 2) (.il (-1))) (.il 0)) (.len (.sv 0))) (.ite (.lt (.il 0) (.add (.iv 2) (.il (-1)))) (.add (.iv 2) (.il (-1))) (.il 0)) (.len (.sv 0))))) (.len (.sv 104))) (.sub (.il 2048) (.sub (.len (.sv 0)) (.ite (.lt (.ite (.lt (.il 0) (.add (.iv 2) (.il (-1)))) (.add (.iv 2) (.il (-1))) (.il 0)) (.len (.sv 0))) (.ite (.lt (.il 0) (.add (.iv 2) (.il (-1)))) (.add (.iv 2) (.il (-1))) (.il 0)) (.len (.sv 0))))) (.len (.sv 104)))), (.le (.add (.len (.sv 1)) (.ite (.lt (.sub (.il 2048) (.iv 6)) (.len (.sv 104))) (.sub (.il 2048) (.iv 6)) (.len (.sv 104)))) (.il 140737488355328)), (.le (.ite (.lt (.sub (.il 2048) (.iv 6)) (.len (.sv 104))) (.sub (.il 2048) (.iv 6)) (.len (.sv 104))) (.len (.sv 104))), (.not (.bv 0)), (.le (.iv 6) (.len (.sv 1))), (.le (.len (.sv 1)) (.iv 6))])] := by
  have hs := hK.rel.size
  have hbb := b1_bd (ρ.b 0)
  have hr := hK.rel
  have q0 := hK.i0
  have q1 := hK.i1
  have q2 := hK.lt
  have q4 := hK.x4
  obtain ⟨g1, g2, g3, g4, g5, g6, g7, g8, g9⟩ := hK.rel
  have eN : (den ρ (.ite (.lt (.il 0) (.len (.sv 104))) (.il 0) (.len (.sv 104)))).i = min 0 ((ρ.s 104).size : Int) := i_min _ _ _
  have eQ : (den ρ (.ite (.lt (.sub (.il 2048) (.iv 6)) (.len (.sv 104))) (.sub (.il 2048) (.iv 6)) (.len (.sv 104)))).i = min (2048 - ρ.i 6) ((ρ.s 104).size : Int) := by
    rw [i_min, i_sub, i_il, i_iv, i_len, s_sv]
  have eR : ρ.b 0 = false → (den ρ (.ite (.lt (.sub (.il 2048) (.sub (.len (.sv 0)) (.ite (.lt (.ite (.lt (.il 0) (.add (.iv 2) (.il (-1)))) (.add (.iv 2) (.il (-1))) (.il 0)) (.len (.sv 0))) (.ite (.lt (.il 0) (.add (.iv 2) (.il (-1)))) (.add (.iv 2) (.il (-1))) (.il 0)) (.len (.sv 0))))) (.len (.sv 104))) (.sub (.il 2048) (.sub (.len (.sv 0)) (.ite (.lt (.ite (.lt (.il 0) (.add (.iv 2) (.il (-1)))) (.add (.iv 2) (.il (-1))) (.il 0)) (.len (.sv 0))) (.ite (.lt (.il 0) (.add (.iv 2) (.il (-1)))) (.add (.iv 2) (.il (-1))) (.il 0)) (.len (.sv 0))))) (.len (.sv 104)))).i = min (2048 - ρ.i 6) ((ρ.s 104).size : Int) := fun h => by
    rw [i_min, room_eq hr h, i_len, s_sv]
  have wr : ∀ m : Int, 0 ≤ m → m ≤ (ρ.s 104).size → m ≤ 2048 - ρ.i 6 → (ρ.b 0 = true → m = 0) → OqRel (ρ.s 0 ++ (ρ.s 104).extract 0 m.toNat) (ρ.s 1 ++ (ρ.s 104).extract 0 m.toNat) (ρ.b 0) (ρ.i 2) (ρ.i 3) (ρ.i 4) (ρ.i 5) (((ρ.s 1).size : Int) + m) (2048 * ρ.i 0 + 2048) := fun m h1 h2 h3 h4 => by
    have e : ((ρ.s 104).extract 0 m.toNat).size = m.toNat := by
      simp only [ByteArray.size_extract]
      omega
    have := hr.write ((ρ.s 104).extract 0 m.toNat) (fun h => by rw [e, h4 h]; rfl) (by rw [e]; omega)
    rw [e, show ρ.i 6 + ((m.toNat : Nat) : Int) = ((ρ.s 1).size : Int) + m from by omega] at this
    exact this
  refine ⟨?_, ?_, ?_, ?_, ?_, ?_, ?_, ?_, ?_, ?_, trivial⟩
  all_goals
    intro hpc
    rw [hB] at hpc
    try rw [hB]
  · rw [t_le, eN, i_len, s_sv]; omega
  · rw [t_le, i_add, eN, i_len, s_sv, i_il]; omega
  · rw [t_le, i_add, eN, i_len, s_sv, i_il]; omega
  · intro β u
    refine ⟨hK.g, hK.v, hK.i0, hK.i1, hK.lt, hK.k, rfl, ?_⟩
    have := wr (den ρ (.ite (.lt (.il 0) (.len (.sv 104))) (.il 0) (.len (.sv 104)))).i (by rw [eN]; omega) (by rw [eN]; omega) (by rw [eN]; omega) (fun _ => by rw [eN]; omega)
    exact this
  · rw [t_le, eQ, i_len, s_sv]; omega
  · rw [t_le, i_add, eQ, i_len, s_sv, i_il]; omega
  · have hb0 : ρ.b 0 = false := by
      cases hb : ρ.b 0 with
      | false => rfl
      | true =>
        simp only [pcs, t_not, t_bv, hb, not_true_eq_false, and_false, false_and] at hpc
    rw [t_le, eR hb0, i_il]; omega
  · have hb0 : ρ.b 0 = false := by
      cases hb : ρ.b 0 with
      | false => rfl
      | true =>
        simp only [pcs, t_not, t_bv, hb, not_true_eq_false, and_false, false_and] at hpc
    rw [t_le, eR hb0, i_len, s_sv]; omega
  · have hb0 : ρ.b 0 = false := by
      cases hb : ρ.b 0 with
      | false => rfl
      | true =>
        simp only [pcs, t_not, t_bv, hb, not_true_eq_false, and_false, false_and] at hpc
    rw [t_le, i_add, eR hb0, i_len, s_sv, i_il]; omega
  · have hb0 : ρ.b 0 = false := by
      cases hb : ρ.b 0 with
      | false => rfl
      | true =>
        simp only [pcs, t_not, t_bv, hb, not_true_eq_false, and_false, false_and] at hpc
    intro β u
    have e := (eR hb0).trans eQ.symm
    refine ⟨hK.g, hK.v, hK.i0, hK.i1, hK.lt, hK.k, ?_, ?_⟩
    · show ((den ρ (.ite (.lt (.sub (.il 2048) (.iv 6)) (.len (.sv 104))) (.sub (.il 2048) (.iv 6)) (.len (.sv 104)))).i == (den ρ (.ite (.lt (.sub (.il 2048) (.sub (.len (.sv 0)) (.ite (.lt (.ite (.lt (.il 0) (.add (.iv 2) (.il (-1)))) (.add (.iv 2) (.il (-1))) (.il 0)) (.len (.sv 0))) (.ite (.lt (.il 0) (.add (.iv 2) (.il (-1)))) (.add (.iv 2) (.il (-1))) (.il 0)) (.len (.sv 0))))) (.len (.sv 104))) (.sub (.il 2048) (.sub (.len (.sv 0)) (.ite (.lt (.ite (.lt (.il 0) (.add (.iv 2) (.il (-1)))) (.add (.iv 2) (.il (-1))) (.il 0)) (.len (.sv 0))) (.ite (.lt (.il 0) (.add (.iv 2) (.il (-1)))) (.add (.iv 2) (.il (-1))) (.il 0)) (.len (.sv 0))))) (.len (.sv 104)))).i) = true
      rw [e]
      exact beq_self_eq_true _
    · have := wr (den ρ (.ite (.lt (.sub (.il 2048) (.iv 6)) (.len (.sv 104))) (.sub (.il 2048) (.iv 6)) (.len (.sv 104)))).i (by rw [eQ]; omega) (by rw [eQ]; omega) (by rw [eQ]; omega) (fun h => by rw [h] at hb0; cases hb0)
      show OqRel (ρ.s 0 ++ (ρ.s 104).extract 0 (den ρ (.ite (.lt (.sub (.il 2048) (.sub (.len (.sv 0)) (.ite (.lt (.ite (.lt (.il 0) (.add (.iv 2) (.il (-1)))) (.add (.iv 2) (.il (-1))) (.il 0)) (.len (.sv 0))) (.ite (.lt (.il 0) (.add (.iv 2) (.il (-1)))) (.add (.iv 2) (.il (-1))) (.il 0)) (.len (.sv 0))))) (.len (.sv 104))) (.sub (.il 2048) (.sub (.len (.sv 0)) (.ite (.lt (.ite (.lt (.il 0) (.add (.iv 2) (.il (-1)))) (.add (.iv 2) (.il (-1))) (.il 0)) (.len (.sv 0))) (.ite (.lt (.il 0) (.add (.iv 2) (.il (-1)))) (.add (.iv 2) (.il (-1))) (.il 0)) (.len (.sv 0))))) (.len (.sv 104)))).i.toNat) (ρ.s 1 ++ (ρ.s 104).extract 0 (den ρ (.ite (.lt (.sub (.il 2048) (.iv 6)) (.len (.sv 104))) (.sub (.il 2048) (.iv 6)) (.len (.sv 104)))).i.toNat) (ρ.b 0) (ρ.i 2) (ρ.i 3) (ρ.i 4) (ρ.i 5) (((ρ.s 1).size : Int) + (den ρ (.ite (.lt (.sub (.il 2048) (.iv 6)) (.len (.sv 104))) (.sub (.il 2048) (.iv 6)) (.len (.sv 104)))).i) (2048 * ρ.i 0 + 2048)
      rw [e]
      exact this
end
end Go.Proofs.Ythjigajielhkfaa
