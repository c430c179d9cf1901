/- ListenSays: the walk. -/
import Derived.Test.YtnjpoidpfcfbeaaLs8
namespace Go.Proofs.Ytnjpoidpfcfbeaa
open Go.RowKit Sy
set_option linter.unusedVariables false
set_option linter.unusedSimpArgs false

set_option maxRecDepth 100000 in
set_option maxHeartbeats 1000000 in
theorem li_fin {vs : Value} {len : Nat} {w0 : World} (hl : len ≤ 140737488355328) {ρ : Env} (hI : LiI vs len ρ) {β : Bn} {a : Act} {w : World} (hM : Md ρ (fun _ => False) w0 (fun _ => 0) 0 (lfAt (saysHd Try.prog Try.f4 liP (liT Try.prog Try.f4) 0) 1) β a w) :
    ctx Try.prog (liP ++ [1]) (bodyOf Try.f4) (bodyPost Try.prog Try.f4 (RetP fun v w' => v = .bool true ∧ Below w0.heap.size w0 w')) .normal a w := by
  have f1 := hI.f
  have R := hI.rel
  have i8 := hI.i8
  have he0 : EnOk 0 (-1) := ⟨by decide, by decide, by decide, by decide⟩
  have he : EnOk (den ρ (.il 0)).i (den ρ (.il (-1))).i := he0
  refine aft_fin (B := ⟨ρ, fun _ => False, w0, fun _ => 0, 0⟩) hI.g (li_sp f1) rfl .normal li_end ⟨?_, ?_, ?_, ?_, ?_, ?_, ?_, trivial⟩ hM
  all_goals
    intro hpc
    replace hpc : pcs ρ _ := hpc
    simp only [pcs, pc1, pc2, pc3, pc4, t_lt, t_le, t_eq, t_not, t_and, i_iv, i_il, i_add, i_sub, i_tlen, c_cv, and_true] at hpc
  · rcases three f1 he R with ⟨q1, q2, q3, q4, q5, q6⟩ | ⟨q1, ⟨q2, q2'⟩, q3, q4, q5⟩ | ⟨q1, q2, q3, q5, q6, q7, q8⟩
    · have q2 : (den ρ iWz).i < 0 := q2
      exfalso; omega
    · rw [t_lt]
      exact q2'
    · have q2 : (den ρ iWz).i < 0 := q2
      exfalso; omega
  all_goals
    intro β w2 hH
    first
      | exact ⟨rfl, Sy.Only.below_all hH.only⟩
      | (exfalso
         rcases three f1 he R with ⟨q1, q2, q3, q4, q5, q6⟩ | ⟨q1, ⟨q2, q2'⟩, q3, q4, q5⟩ | ⟨q1, q2, q3, q5, q6, q7, q8⟩
         · have q1 : 0 ≤ (den ρ iHz).i := q1
           have q2 : (den ρ iWz).i < 0 := q2
           have q3 : 0 ≤ (den ρ iRz).i := q3
           omega
         · have q1 : (den ρ iHz).i < 0 := q1
           have q2 : 0 ≤ (den ρ iWz).i := q2
           have q3 : 0 ≤ (den ρ iRz).i := q3
           omega
         · have q1 : (den ρ iHz).i < 0 := q1
           have q2 : (den ρ iWz).i < 0 := q2
           have q3 : (den ρ iRz).i < 0 := q3
           omega)
set_option maxRecDepth 100000 in
set_option maxHeartbeats 2000000 in
theorem walk_listenSays (w : World) (k : Int) (a : Option Addr) (len cap : Nat) (hk0 : -9223372036854775808 ≤ k) (hk1 : k ≤ 9223372036854775807) (o : Opened stepLeaves w a len cap) (hl : len ≤ 140737488355328) :
    Calls Try.prog 4 #[.int .i64 k, .slice a len cap] w fun e w' => e = .returned (.bool true) ∧ Below w.heap.size w w' := by
  obtain ⟨C, _, hC0⟩ := came_of o
  have hC : ∀ i, i < len → ∃ b off cap', Value.slice a len cap = .slice (some ⟨b, off, none⟩) len cap' ∧ leafAll stepLeaves (C i) ∧ w.rangeAt b (off + i * 45) (C i) := by
    rcases hC0 with rfl | ⟨b, off, rfl, _, hC⟩
    · intro i hi
      omega
    · exact fun i hi => ⟨b, off, cap, rfl, (hC i hi).1, (hC i hi).2⟩
  let ρ0 : Env := { mkEnv0 [0, (len : Int), 0, 0, 0, 0, 0, k] [] [] [.slice a len cap] with f := lsF }
  have hg0 : ρ0.good := fun i => by
    rcases i with _ | i
    · rfl
    · rfl
  have hM0 : Md ρ0 (fun _ => False) w (fun _ => 0) 0 liSt0 (fun _ => 0) ⟨#[], []⟩ w := Sy.Md.init trivial trivial trivial (cxP ⟨⟨hk0, hk1⟩, trivial⟩ trivial) rfl
  refine (calls_pre (B := ⟨ρ0, fun _ => False, w, fun _ => 0, 0⟩) (sp := []) (p := liP) (xs := liA) (s := liSt0) (r := liPre Try.prog Try.f4) hg0 (fun q hq => by cases hq) rfl Try.func4 rfl rfl li_pre hM0 (R := fun v w' => v = .bool true ∧ Below w.heap.size w w') ⟨?_, ?_, ?_, trivial⟩ rfl).mono ?_
  · intro _ β a1 w1 hM1
    exact ret_post (B := ⟨ρ0, fun _ => False, w, fun _ => 0, 0⟩) hM1 li_ret0 ⟨rfl, Sy.Only.below_all hM1.only⟩
  · intro hpc β a1 w1 hM1
    have hk8 : k ≤ 8 := by
      have := hpc.1
      rw [t_not, t_lt] at this
      have this : ¬ (8 : Int) < k := this
      omega
    have hk1 : 1 ≤ k := by
      have := hpc.2.1
      rw [t_not, t_lt] at this
      have this : ¬ k < 1 := this
      omega
    obtain ⟨fr1, fr2⟩ := Prod.mk.inj li_free1
    obtain ⟨fr3, fr4⟩ := Prod.mk.inj li_free2
    obtain ⟨tm1, tm2⟩ := Prod.mk.inj li_tm
    obtain ⟨β1, M1⟩ := Sy.Md.tabCell hM1 2 2 40 129 dnLv (Nat.zero_le _) fr1 fr2
    obtain ⟨β2, M2⟩ := Sy.Md.tabCell M1 4 1 60 125 wtLv (Nat.zero_le _) fr3 fr4
    refine says_loop li_code (a0 := a) (cap := cap) (I := LiI (.slice a len cap) len) (fun g _ h => h) hC (fun ρ h => ⟨h.g, h.v, h.i0, h.le, h.i1⟩) ?_ ?_ (show ρ0.v 0 = .slice a len cap from rfl) (show ρ0.i 1 = (len : Int) from rfl) tm1 tm2 li_okP ?_ M2
    · intro ρ hI hlt cs hcs u β a w1 hM Q
      have h4 : intAt cs 0 % 4 = 0 ∨ intAt cs 0 % 4 = 1 ∨ intAt cs 0 % 4 = 2 ∨ intAt cs 0 % 4 = 3 := by omega
      rcases h4 with h4 | h4 | h4 | h4
      · exact li_r0 hl hI hlt hcs h4 hM
      · exact li_r1 hl hI hlt hcs h4 hM
      · exact li_r2 hl hI hlt hcs h4 hM
      · exact li_r3 hl hI hlt hcs h4 hM
    · intro ρ hI he β a w1 hM
      exact li_fin hl hI hM
    · intro β ac w1 hM
      have R0 : RelL k [] [] [] := ⟨rfl, rfl, List.Pairwise.nil, by show (0 : Int) ≤ k; omega, by show (0 : Int) ≤ k; omega⟩
      have hI0 : ∀ u, LiI (.slice a len cap) len { ρ0.sub β [.i 0 (.il 0), .i 9 (.il 0), .i 8 (.il 0), .c 0 tn, .c 2 tn, .c 1 tn] with u := u } := fun u => ⟨hg0, rfl, rfl, Int.le_refl 0, (by show (0 : Int) ≤ (len : Int); omega), rfl, hk1, hk8, R0, rfl, rfl⟩
      obtain ⟨u, β', hM5⟩ := Sy.Md.enter hM li_in fun u => by rw [li_cx]; exact (hI0 u).cx hl
      exact ⟨_, β', hI0 u, hM5⟩
  · intro _ β a1 w1 hM1
    exact ret_post (B := ⟨ρ0, fun _ => False, w, fun _ => 0, 0⟩) hM1 li_ret2 ⟨rfl, Sy.Only.below_all hM1.only⟩
  · rintro e w' ⟨v, rfl, rfl, hb⟩
    exact ⟨rfl, hb⟩
end Go.Proofs.Ytnjpoidpfcfbeaa
