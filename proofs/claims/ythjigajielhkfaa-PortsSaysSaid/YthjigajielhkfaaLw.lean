/- PortsSays: the rounds, the walk. -/
import Derived.Test.YthjigajielhkfaaLw0
namespace Go.Proofs.Ythjigajielhkfaa
open Go.RowKit Sy
set_option linter.unusedVariables false
set_option linter.unusedSimpArgs false

/-- Both tables hold the same. -/
structure LwI (vs : Value) (len : Nat) (ρ : Env) : Prop where
  g : ρ.good
  v : ρ.v 0 = vs
  f : ρ.f = plH
  i0 : 0 ≤ ρ.i 0
  le : ρ.i 0 ≤ ρ.i 1
  i1 : ρ.i 1 = (len : Int)
  c0 : (ρ.c 0).length ≤ 32
  i3 : ρ.i 3 = ((ρ.c 0).length : Int)
theorem lw_bs {ρ : Env} {len : Nat} (hl : len ≤ 140737488355328) (i0 : 0 ≤ ρ.i 0) (le : ρ.i 0 ≤ ρ.i 1) (i1 : ρ.i 1 = (len : Int)) (c0 : (ρ.c 0).length ≤ 32) (i3 : ρ.i 3 = ((ρ.c 0).length : Int)) : Bds ρ lwBs := by
  intro x hx
  change x ∈ [_, _, _, _] at hx
  simp only [List.mem_cons, List.not_mem_nil, or_false] at hx
  rcases hx with rfl | rfl | rfl | rfl
  · show (0 : Int) ≤ ρ.i 0 ∧ ρ.i 0 ≤ 140737488355328
    omega
  · show (0 : Int) ≤ ρ.i 1 ∧ ρ.i 1 ≤ 140737488355328
    omega
  · show (0 : Int) ≤ ρ.i 3 ∧ ρ.i 3 ≤ 32
    omega
  · show (0 : Int) ≤ (((ρ.c 0).length : Nat) : Int) ∧ (((ρ.c 0).length : Nat) : Int) ≤ 32
    omega
theorem lw_pc {ρ : Env} (i3 : ρ.i 3 = ((ρ.c 0).length : Int)) : ∀ t ∈ lwCx.pc, (den ρ t).b = true := by
  intro t ht
  change t ∈ [_, _] at ht
  simp only [List.mem_cons, List.not_mem_nil, or_false] at ht
  rcases ht with rfl | rfl
  · rw [t_le]; show ρ.i 3 ≤ (((ρ.c 0).length : Nat) : Int); omega
  · rw [t_le]; show (((ρ.c 0).length : Nat) : Int) ≤ ρ.i 3; omega
theorem LwI.cx {vs : Value} {len : Nat} (hl : len ≤ 140737488355328) {ρ : Env} (h : LwI vs len ρ) : lwCx.ok ρ := ⟨lw_bs hl h.i0 h.le h.i1 h.c0 h.i3, lw_pc h.i3⟩
theorem x_i64 {cs : List Value} (h : leafAll stepLeaves cs) (n : Nat) (hn : stepLeaves[n]? = some (some (some .i64))) : -9223372036854775808 ≤ intAt cs n ∧ intAt cs n ≤ 9223372036854775807 := by
  obtain ⟨y, hy, hw⟩ := leaf_int h n hn
  unfold intAt
  rw [hy]
  exact bounds_i64 hw
theorem x_u32 {cs : List Value} (h : leafAll stepLeaves cs) (n : Nat) (hn : stepLeaves[n]? = some (some (some .u32))) : 0 ≤ intAt cs n ∧ intAt cs n ≤ 4294967295 := by
  obtain ⟨y, hy, hw⟩ := leaf_int h n hn
  unfold intAt
  rw [hy]
  exact bounds_u32 hw
theorem xb5 {cs : List Value} (h : leafAll stepLeaves cs) (ρ : Env) (u : Nat → Value) {k : Int} (hk : (intAt cs 0) % 5 = k) : Bds { ρ.hi 100 cs with u := u } (xB5 k) := by
  intro x hx
  change x ∈ [_, _, _, _, _, _, _, _, _, _, _, _, _] at hx
  simp only [List.mem_cons, List.not_mem_nil, or_false] at hx
  rcases hx with rfl | rfl | rfl | rfl | rfl | rfl | rfl | rfl | rfl | rfl | rfl | rfl | rfl
  · show k ≤ intAt cs 0 % 5 ∧ intAt cs 0 % 5 ≤ k
    omega
  · exact x_i64 h 0 rfl
  · exact x_i64 h 1 rfl
  · exact x_u32 h 34 rfl
  · exact x_i64 h 35 rfl
  · exact x_u32 h 36 rfl
  · exact x_i64 h 37 rfl
  · exact x_i64 h 38 rfl
  · exact x_u32 h 39 rfl
  · exact x_i64 h 40 rfl
  · exact x_u32 h 41 rfl
  · exact x_i64 h 42 rfl
  · exact x_i64 h 44 rfl
theorem lw_sp {ρ : Env} (h : ρ.f = plH) : ∀ q ∈ lwSp, q.Ok Try.prog ρ := by
  intro q hq
  change q ∈ [_, _, _, _, _, _, _, _, _, _, _] at hq
  simp only [List.mem_cons, List.not_mem_nil, or_false] at hq
  rcases hq with rfl | rfl | rfl | rfl | rfl | rfl | rfl | rfl | rfl | rfl | rfl
  · exact ofSp_ok
  · exact bindSp_ok pbind_runs (by rw [h]) (by rw [h])
  · exact bindSp_ok rbind_runs (by rw [h]) (by rw [h])
  · exact pickSp_ok pk_runs (by rw [h]) (by rw [h]) (by rw [h])
  · exact pickSp_ok rk_runs (by rw [h]) (by rw [h]) (by rw [h])
  · exact dropSp_ok pdrop_runs (by rw [h]; rfl) (by rw [h])
  · exact dropSp_ok rdrop_runs (by rw [h]; rfl) (by rw [h])
  · exact Go.Proofs.Ythjigajielhkfaa.findSp_ok pfind_runs (by rw [h]; rfl) (by rw [h]; rfl)
  · exact Go.Proofs.Ythjigajielhkfaa.findSp_ok rfind_runs (by rw [h]; rfl) (by rw [h]; rfl)
  · exact allSp_ok
  · exact eqZ_ok
theorem lw_cxTo {ρ : Env} {S : Nat → Prop} {w0 : World} {β0 : Bn} {n0 : Nat} {s : Sy.St} {β : Bn} {a : Act} {w : World} (hM : Md ρ S w0 β0 n0 s β a w) (c : Cx) (hc : c.ok ρ) : Md ρ S w0 β0 n0 { s with cx := c } β a w := ⟨hM.act, hM.hp, hM.ne, hM.may, hc, hM.only, hM.old⟩
section
variable {vs : Value} {len : Nat} {w0 : World} {Q : Exit → Act → World → Prop}
abbrev LwQ (w0 : World) (vs : Value) (len m : Nat) (Q : Exit → Act → World → Prop) : Exit → Act → World → Prop := Exit.then (NextR (fun _ => False) w0 (fun _ => 0) 0 (lwTp Try.prog Try.f14) (LwI vs len) saysMu m) Q
theorem lw_next {ρ ρ1 : Env} (hI : LwI vs len ρ) (hlt : ρ.i 0 < ρ.i 1) (g : ρ1.good) (v : ρ1.v 0 = vs) (f : ρ1.f = plH) (i0 : ρ1.i 0 = ρ.i 0 + 1) (i1 : ρ1.i 1 = ρ.i 1) (c0 : (ρ1.c 0).length ≤ 32) (i3 : ρ1.i 3 = ((ρ1.c 0).length : Int)) : LwI vs len ρ1 ∧ saysMu ρ1 < saysMu ρ := by
  have h0 := hI.i0
  have h1 := hI.i1
  refine ⟨⟨g, v, f, by omega, by omega, by omega, c0, i3⟩, ?_⟩
  unfold saysMu
  omega
set_option maxRecDepth 100000 in
theorem lw_round {k : Int} {l : List As} (hr : shR 0 (some (lwTp Try.prog Try.f14)) (lwOp Try.prog Try.f14 k) = some [.back l lwCx.pc]) (hl : len ≤ 140737488355328)
    (hnx : ∀ {ρ ρ1 : Env}, LwI vs len ρ → ρ.i 0 < ρ.i 1 → ρ1.good → ρ1.v 0 = vs → ρ1.f = plH → ρ1.i 0 = ρ.i 0 → ρ1.i 1 = ρ.i 1 → (ρ1.c 0).length ≤ 32 → ρ1.i 3 = ((ρ1.c 0).length : Int) → ∀ β u, LwI vs len { ρ1.sub β l with u := u } ∧ saysMu { ρ1.sub β l with u := u } < saysMu ρ)
    {ρ : Env} (hI : LwI vs len ρ) (hlt : ρ.i 0 < ρ.i 1) {cs : List Value} (hcs : leafAll stepLeaves cs) (hm : intAt cs 0 % 5 = k) {u : Nat → Value} {β : Bn} {a : Act} {w : World}
    (hM : Md { ρ.hi 100 cs with u := u } (fun _ => False) w0 (fun _ => 0) 0 (lwX Try.prog Try.f14) β a w) : ctx Try.prog rowP (saysB Try.f14 lwP) (LwQ w0 vs len (saysMu ρ) Q) .normal a w := by
  have hB : Bds { ρ.hi 100 cs with u := u } (xB5 k ++ lwBs) := fun x hx => (List.mem_append.1 hx).elim (xb5 hcs ρ u hm x) (lw_bs (ρ := { ρ.hi 100 cs with u := u }) hl hI.i0 hI.le hI.i1 hI.c0 hI.i3 x)
  have hM1 := lw_cxTo hM ⟨xB5 k ++ lwBs, lwCx.pc⟩ ⟨hB, lw_pc (ρ := { ρ.hi 100 cs with u := u }) hI.i3⟩
  refine round_aft .normal (r := lwOp Try.prog Try.f14 k) rfl hr (I := LwI vs len) (fun ρ h => by rw [lw_cx]; exact h.cx hl) (show Env.good { ρ.hi 100 cs with u := u } from hI.g) (lw_sp (show ({ ρ.hi 100 cs with u := u } : Env).f = plH from hI.f)) ⟨?_, trivial⟩ hM1
  intro hpc β u'
  exact hnx (ρ1 := { ρ.hi 100 cs with u := u }) hI hlt hI.g hI.v hI.f rfl rfl hI.c0 hI.i3 β u'
theorem lw_tab {t : Tm} (ht : ∀ {ρ1 : Env}, ρ1.f = plH → (ρ1.c 0).length ≤ 32 → (den ρ1 t).c.length ≤ 32) {ρ ρ1 : Env} (hI : LwI vs len ρ) (hlt : ρ.i 0 < ρ.i 1) (g : ρ1.good) (v : ρ1.v 0 = vs) (f : ρ1.f = plH) (i0 : ρ1.i 0 = ρ.i 0) (i1 : ρ1.i 1 = ρ.i 1) (c0 : (ρ1.c 0).length ≤ 32) (i3 : ρ1.i 3 = ((ρ1.c 0).length : Int)) (β : Bn) (u : Nat → Value) :
    LwI vs len { ρ1.sub β [.i 0 (.add (.iv 0) (.il 1)), .i 3 (tlen t), .i 3 (tlen t), .c 0 t, .c 0 t] with u := u } ∧ saysMu { ρ1.sub β [.i 0 (.add (.iv 0) (.il 1)), .i 3 (tlen t), .i 3 (tlen t), .c 0 t, .c 0 t] with u := u } < saysMu ρ :=
  lw_next hI hlt g v f (show ρ1.i 0 + 1 = _ by rw [i0]) i1 (ht f c0) rfl
theorem ap_c {ρ : Env} (h : ρ.f = plH) (n : Nat) (x y z : Tm) : (den ρ (.ap n x y z)).c = (plH n (den ρ x) (den ρ y) (den ρ z)).c := by
  show (ρ.f n _ _ _).c = _
  rw [h]
set_option maxRecDepth 100000 in
set_option maxHeartbeats 2000000 in
theorem walk_portsSays (w : World) (a : Option Addr) (len cap : Nat) (o : Opened stepLeaves w a len cap) (hl : len ≤ 140737488355328) :
    Calls Try.prog 14 #[.slice a len cap] w fun e w' => e = .returned (.bool true) ∧ Below w.heap.size w w' := by
  obtain ⟨C, _, hC0⟩ := came_of o
  have hC : ∀ i, i < len → ∃ b off cap', Value.slice a len cap = .slice (some ⟨b, off, none⟩) len cap' ∧ leafAll stepLeaves (C i) ∧ w.rangeAt b (off + i * 45) (C i) := by
    rcases hC0 with rfl | ⟨b, off, rfl, _, hC⟩
    · intro i hi
      omega
    · exact fun i hi => ⟨b, off, cap, rfl, (hC i hi).1, (hC i hi).2⟩
  let ρ0 : Env := { mkEnv [0, (len : Int)] [] [] [.slice a len cap] with f := plH }
  have hg0 : ρ0.good := fun i => by
    rcases i with _ | i
    · rfl
    · rfl
  have hM0 : Md ρ0 (fun _ => False) w (fun _ => 0) 0 ⟨[], [], ⟨[], []⟩, 0⟩ (fun _ => 0) ⟨#[], []⟩ w := Md.start ⟨fun _ h => (by cases h), fun _ h => (by cases h)⟩
  refine (calls_pre (B := ⟨ρ0, fun _ => False, w, fun _ => 0, 0⟩) (sp := []) (p := lwP) (xs := [.one (.c (.opq 0))]) (s := ⟨[], [], ⟨[], []⟩, 0⟩) (r := lwPre Try.prog Try.f14) hg0 (fun q hq => by cases hq) rfl Try.func14 rfl rfl lw_pre hM0 (R := fun v w' => v = .bool true ∧ Below w.heap.size w w') ⟨?_, trivial⟩ rfl).mono ?_
  · intro _ β a1 w1 hM1
    obtain ⟨fr1, fr2⟩ := Prod.mk.inj lw_free1
    obtain ⟨fr3, fr4⟩ := Prod.mk.inj lw_free2
    obtain ⟨tm1, tm2⟩ := Prod.mk.inj lw_tm
    obtain ⟨β1, M1⟩ := Sy.Md.tabCell hM1 0 0 40 50 bdLv (Nat.zero_le _) fr1 fr2
    obtain ⟨β2, M2⟩ := Sy.Md.tabCell M1 2 0 60 50 bdLv (Nat.zero_le _) fr3 fr4
    refine says_loop lw_code (a0 := a) (cap := cap) (I := LwI (.slice a len cap) len) (fun g _ h => h) hC (fun ρ h => ⟨h.g, h.v, h.i0, h.le, h.i1⟩) ?_ ?_ (show ρ0.v 0 = .slice a len cap from rfl) (show ρ0.i 1 = (len : Int) from rfl) tm1 tm2 lw_okP ?_ M2
    · intro ρ hI hlt cs hcs u β a w1 hM Q
      have h5 : intAt cs 0 % 5 = 0 ∨ intAt cs 0 % 5 = 1 ∨ intAt cs 0 % 5 = 2 ∨ intAt cs 0 % 5 = 3 ∨ intAt cs 0 % 5 = 4 := by omega
      rcases h5 with h5 | h5 | h5 | h5 | h5
      · refine lw_round lw_op0 hl (lw_tab ?_) hI hlt hcs h5 hM
        intro ρ1 f c0
        rw [ap_c f]
        exact bindR_len c0
      · refine lw_round lw_op1 hl (lw_tab ?_) hI hlt hcs h5 hM
        intro ρ1 f c0
        rw [ap_c f]
        exact bindR_len c0
      · refine lw_round lw_op2 hl (lw_tab ?_) hI hlt hcs h5 hM
        intro ρ1 f c0
        rw [ap_c f]
        exact pickR_len c0
      · refine lw_round lw_op3 hl (lw_tab ?_) hI hlt hcs h5 hM
        intro ρ1 f c0
        rw [ap_c f]
        exact Nat.le_trans (List.length_filter_le ..) c0
      · refine lw_round lw_op4 hl ?_ hI hlt hcs h5 hM
        intro ρ ρ1 hI hlt g v f i0 i1 c0 i3 β u
        exact lw_next hI hlt g v f (show ρ1.i 0 + 1 = _ by rw [i0]) i1 c0 i3
    · intro ρ hI he β a w1 hM
      refine aft_fin (B := ⟨ρ, fun _ => False, w, fun _ => 0, 0⟩) hI.g (fun q hq => by cases hq) rfl .normal lw_end ⟨?_, trivial⟩ hM
      intro _ β w2 hH
      exact ⟨rfl, Sy.Only.below_all hH.only⟩
    · intro β ac w1 hM
      have hI0 : ∀ u, LwI (.slice a len cap) len { ρ0.sub β [.i 0 (.il 0), .i 3 (.il 0), .i 3 (.il 0), .c 0 tn, .c 0 tn] with u := u } := fun u => ⟨hg0, rfl, rfl, Int.le_refl 0, (by show (0 : Int) ≤ (len : Int); omega), rfl, Nat.zero_le _, rfl⟩
      obtain ⟨u, β', hM5⟩ := Sy.Md.enter hM lw_in fun u => by rw [lw_cx]; exact (hI0 u).cx hl
      exact ⟨_, β', hI0 u, hM5⟩
  · rintro e w' ⟨v, rfl, rfl, hb⟩
    exact ⟨rfl, hb⟩
end
end Go.Proofs.Ythjigajielhkfaa
