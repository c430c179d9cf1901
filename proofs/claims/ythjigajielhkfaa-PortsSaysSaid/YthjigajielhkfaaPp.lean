/- Bounds: check and Bind of both. Printed by gen_pb.py. -/
import Derived.Test.YthjigajielhkfaaPm
namespace Go.Proofs.Ythjigajielhkfaa
open Go.RowKit Sy
set_option linter.unusedVariables false
set_option linter.unusedSimpArgs false

set_option maxRecDepth 100000 in
theorem pchk_run : smR Try.prog Try.f177 50 (run Try.prog [] 10 400 50 (.code (bodyOf Try.f177)) (enterS Try.f177 chA chSt)) = some [
    (.ret (.one (.c (.int .i64 (.il 0)))) [] [(.eq (.iv 23) (.il 0)), (.eq (.iv 24) (.il 0)), (.not (.lt (.il 65535) (.iv 24))), (.not (.lt (.iv 24) (.il 0))), (.not (.lt (.il 65535) (.iv 22))), (.not (.lt (.iv 22) (.il 1))), (.eq (.iv 20) (.il 17)), (.not (.eq (.iv 20) (.il 6)))]),
    (.ret (.one (.c (.int .i64 (.il 1)))) [] [(.not (.eq (.iv 23) (.il 0))), (.eq (.iv 24) (.il 0)), (.not (.lt (.il 65535) (.iv 24))), (.not (.lt (.iv 24) (.il 0))), (.not (.lt (.il 65535) (.iv 22))), (.not (.lt (.iv 22) (.il 1))), (.eq (.iv 20) (.il 17)), (.not (.eq (.iv 20) (.il 6)))]),
    (.ret (.one (.c (.int .i64 (.il 1)))) [] [(.eq (.iv 21) (.il 0)), (.not (.eq (.iv 24) (.il 0))), (.not (.lt (.il 65535) (.iv 24))), (.not (.lt (.iv 24) (.il 0))), (.not (.lt (.il 65535) (.iv 22))), (.not (.lt (.iv 22) (.il 1))), (.eq (.iv 20) (.il 17)), (.not (.eq (.iv 20) (.il 6)))]),
    (.ret (.one (.c (.int .i64 (.il 0)))) [] [(.not (.eq (.iv 21) (.il 0))), (.not (.eq (.iv 24) (.il 0))), (.not (.lt (.il 65535) (.iv 24))), (.not (.lt (.iv 24) (.il 0))), (.not (.lt (.il 65535) (.iv 22))), (.not (.lt (.iv 22) (.il 1))), (.eq (.iv 20) (.il 17)), (.not (.eq (.iv 20) (.il 6)))]),
    (.ret (.one (.c (.int .i64 (.il 1)))) [] [(.lt (.il 65535) (.iv 24)), (.not (.lt (.iv 24) (.il 0))), (.not (.lt (.il 65535) (.iv 22))), (.not (.lt (.iv 22) (.il 1))), (.eq (.iv 20) (.il 17)), (.not (.eq (.iv 20) (.il 6)))]),
    (.ret (.one (.c (.int .i64 (.il 1)))) [] [(.lt (.iv 24) (.il 0)), (.not (.lt (.il 65535) (.iv 22))), (.not (.lt (.iv 22) (.il 1))), (.eq (.iv 20) (.il 17)), (.not (.eq (.iv 20) (.il 6)))]),
    (.ret (.one (.c (.int .i64 (.il 1)))) [] [(.lt (.il 65535) (.iv 22)), (.not (.lt (.iv 22) (.il 1))), (.eq (.iv 20) (.il 17)), (.not (.eq (.iv 20) (.il 6)))]),
    (.ret (.one (.c (.int .i64 (.il 1)))) [] [(.lt (.iv 22) (.il 1)), (.eq (.iv 20) (.il 17)), (.not (.eq (.iv 20) (.il 6)))]),
    (.ret (.one (.c (.int .i64 (.il 1)))) [] [(.not (.eq (.iv 20) (.il 17))), (.not (.eq (.iv 20) (.il 6)))]),
    (.ret (.one (.c (.int .i64 (.il 0)))) [] [(.eq (.iv 23) (.il 0)), (.eq (.iv 24) (.il 0)), (.not (.lt (.il 65535) (.iv 24))), (.not (.lt (.iv 24) (.il 0))), (.not (.lt (.il 65535) (.iv 22))), (.not (.lt (.iv 22) (.il 1))), (.eq (.iv 20) (.il 6))]),
    (.ret (.one (.c (.int .i64 (.il 1)))) [] [(.not (.eq (.iv 23) (.il 0))), (.eq (.iv 24) (.il 0)), (.not (.lt (.il 65535) (.iv 24))), (.not (.lt (.iv 24) (.il 0))), (.not (.lt (.il 65535) (.iv 22))), (.not (.lt (.iv 22) (.il 1))), (.eq (.iv 20) (.il 6))]),
    (.ret (.one (.c (.int .i64 (.il 1)))) [] [(.eq (.iv 21) (.il 0)), (.not (.eq (.iv 24) (.il 0))), (.not (.lt (.il 65535) (.iv 24))), (.not (.lt (.iv 24) (.il 0))), (.not (.lt (.il 65535) (.iv 22))), (.not (.lt (.iv 22) (.il 1))), (.eq (.iv 20) (.il 6))]),
    (.ret (.one (.c (.int .i64 (.il 0)))) [] [(.not (.eq (.iv 21) (.il 0))), (.not (.eq (.iv 24) (.il 0))), (.not (.lt (.il 65535) (.iv 24))), (.not (.lt (.iv 24) (.il 0))), (.not (.lt (.il 65535) (.iv 22))), (.not (.lt (.iv 22) (.il 1))), (.eq (.iv 20) (.il 6))]),
    (.ret (.one (.c (.int .i64 (.il 1)))) [] [(.lt (.il 65535) (.iv 24)), (.not (.lt (.iv 24) (.il 0))), (.not (.lt (.il 65535) (.iv 22))), (.not (.lt (.iv 22) (.il 1))), (.eq (.iv 20) (.il 6))]),
    (.ret (.one (.c (.int .i64 (.il 1)))) [] [(.lt (.iv 24) (.il 0)), (.not (.lt (.il 65535) (.iv 22))), (.not (.lt (.iv 22) (.il 1))), (.eq (.iv 20) (.il 6))]),
    (.ret (.one (.c (.int .i64 (.il 1)))) [] [(.lt (.il 65535) (.iv 22)), (.not (.lt (.iv 22) (.il 1))), (.eq (.iv 20) (.il 6))]),
    (.ret (.one (.c (.int .i64 (.il 1)))) [] [(.lt (.iv 22) (.il 1)), (.eq (.iv 20) (.il 6))])] := by kernel_rfl
set_option maxHeartbeats 1000000 in
theorem pchk_runs : ChkRuns Try.prog 177 := by
  intro w b hk
  have hcs : denL (bdEnv plH [] b) (fun _ => 0) bdC = b := (bd_cells hk).symm
  have hcx : chSt.cx.ok (bdEnv plH [] b) := ⟨fun x hx => tb_bs (Nat.zero_le _) (but_self _) x (List.mem_cons_of_mem _ hx), fun t ht => by cases ht⟩
  have e20 : (bdEnv plH [] b).i 20 = gI .i64 b 0 := rfl
  have e21 : (bdEnv plH [] b).i 21 = gI .u32 b 1 := rfl
  have e22 : (bdEnv plH [] b).i 22 = gI .i64 b 2 := rfl
  have e23 : (bdEnv plH [] b).i 23 = gI .u32 b 3 := rfl
  have e24 : (bdEnv plH [] b).i 24 = gI .i64 b 4 := rfl
  refine calls_sm (B := ⟨bdEnv plH [] b, fun _ => False, w, fun _ => 0, 50⟩) (sp := []) (fun i => rfl) (fun q hq => by cases hq) 10 400 Try.func177 rfl chA chSt _ 50 rfl pchk_run (Md.start hcx) ?_ ?_
  · refine ⟨?_, ?_, ?_, ?_, ?_, ?_, ?_, ?_, ?_, ?_, ?_, ?_, ?_, ?_, ?_, ?_, ?_, trivial⟩
    all_goals
      intro hpc β w' hH
      refine ⟨?_, Sy.Only.below_all hH.only⟩
      replace hpc : pcs (bdEnv plH [] b) _ := hpc
      simp only [pcs, t_lt, t_le, t_eq, t_not, i_iv, i_il, e20, e21, e22, e23, e24, and_true] at hpc
      unfold chkE
      first
        | (rw [if_pos (by omega)]; rfl)
        | (rw [if_neg (by omega)]; rfl)
  · show _ = (#[.agg (denL (bdEnv plH [] b) (fun _ => 0) bdC).toArray] : Array Value)
    rw [hcs]
set_option maxRecDepth 100000 in
theorem rchk_run : smR Try.prog Try.f179 50 (run Try.prog [] 10 400 50 (.code (bodyOf Try.f179)) (enterS Try.f179 chA chSt)) = some [
    (.ret (.one (.c (.int .i64 (.il 1)))) [] [(.lt (.il 65535) (.iv 24)), (.not (.lt (.iv 24) (.il 0))), (.not (.lt (.il 65535) (.iv 22))), (.not (.lt (.iv 22) (.il 1))), (.eq (.iv 20) (.il 17)), (.not (.eq (.iv 20) (.il 6)))]),
    (.ret (.one (.c (.int .i64 (.il 0)))) [] [(.eq (.iv 23) (.il 0)), (.eq (.iv 24) (.il 0)), (.not (.lt (.il 65535) (.iv 24))), (.not (.lt (.iv 24) (.il 0))), (.not (.lt (.il 65535) (.iv 22))), (.not (.lt (.iv 22) (.il 1))), (.eq (.iv 20) (.il 17)), (.not (.eq (.iv 20) (.il 6)))]),
    (.ret (.one (.c (.int .i64 (.il 1)))) [] [(.not (.eq (.iv 23) (.il 0))), (.eq (.iv 24) (.il 0)), (.not (.lt (.il 65535) (.iv 24))), (.not (.lt (.iv 24) (.il 0))), (.not (.lt (.il 65535) (.iv 22))), (.not (.lt (.iv 22) (.il 1))), (.eq (.iv 20) (.il 17)), (.not (.eq (.iv 20) (.il 6)))]),
    (.ret (.one (.c (.int .i64 (.il 1)))) [] [(.eq (.iv 21) (.il 0)), (.not (.eq (.iv 24) (.il 0))), (.not (.lt (.il 65535) (.iv 24))), (.not (.lt (.iv 24) (.il 0))), (.not (.lt (.il 65535) (.iv 22))), (.not (.lt (.iv 22) (.il 1))), (.eq (.iv 20) (.il 17)), (.not (.eq (.iv 20) (.il 6)))]),
    (.ret (.one (.c (.int .i64 (.il 0)))) [] [(.not (.eq (.iv 21) (.il 0))), (.not (.eq (.iv 24) (.il 0))), (.not (.lt (.il 65535) (.iv 24))), (.not (.lt (.iv 24) (.il 0))), (.not (.lt (.il 65535) (.iv 22))), (.not (.lt (.iv 22) (.il 1))), (.eq (.iv 20) (.il 17)), (.not (.eq (.iv 20) (.il 6)))]),
    (.ret (.one (.c (.int .i64 (.il 1)))) [] [(.lt (.iv 24) (.il 0)), (.not (.lt (.il 65535) (.iv 22))), (.not (.lt (.iv 22) (.il 1))), (.eq (.iv 20) (.il 17)), (.not (.eq (.iv 20) (.il 6)))]),
    (.ret (.one (.c (.int .i64 (.il 1)))) [] [(.lt (.il 65535) (.iv 22)), (.not (.lt (.iv 22) (.il 1))), (.eq (.iv 20) (.il 17)), (.not (.eq (.iv 20) (.il 6)))]),
    (.ret (.one (.c (.int .i64 (.il 1)))) [] [(.lt (.iv 22) (.il 1)), (.eq (.iv 20) (.il 17)), (.not (.eq (.iv 20) (.il 6)))]),
    (.ret (.one (.c (.int .i64 (.il 1)))) [] [(.not (.eq (.iv 20) (.il 17))), (.not (.eq (.iv 20) (.il 6)))]),
    (.ret (.one (.c (.int .i64 (.il 1)))) [] [(.lt (.il 65535) (.iv 24)), (.not (.lt (.iv 24) (.il 0))), (.not (.lt (.il 65535) (.iv 22))), (.not (.lt (.iv 22) (.il 1))), (.eq (.iv 20) (.il 6))]),
    (.ret (.one (.c (.int .i64 (.il 0)))) [] [(.eq (.iv 23) (.il 0)), (.eq (.iv 24) (.il 0)), (.not (.lt (.il 65535) (.iv 24))), (.not (.lt (.iv 24) (.il 0))), (.not (.lt (.il 65535) (.iv 22))), (.not (.lt (.iv 22) (.il 1))), (.eq (.iv 20) (.il 6))]),
    (.ret (.one (.c (.int .i64 (.il 1)))) [] [(.not (.eq (.iv 23) (.il 0))), (.eq (.iv 24) (.il 0)), (.not (.lt (.il 65535) (.iv 24))), (.not (.lt (.iv 24) (.il 0))), (.not (.lt (.il 65535) (.iv 22))), (.not (.lt (.iv 22) (.il 1))), (.eq (.iv 20) (.il 6))]),
    (.ret (.one (.c (.int .i64 (.il 1)))) [] [(.eq (.iv 21) (.il 0)), (.not (.eq (.iv 24) (.il 0))), (.not (.lt (.il 65535) (.iv 24))), (.not (.lt (.iv 24) (.il 0))), (.not (.lt (.il 65535) (.iv 22))), (.not (.lt (.iv 22) (.il 1))), (.eq (.iv 20) (.il 6))]),
    (.ret (.one (.c (.int .i64 (.il 0)))) [] [(.not (.eq (.iv 21) (.il 0))), (.not (.eq (.iv 24) (.il 0))), (.not (.lt (.il 65535) (.iv 24))), (.not (.lt (.iv 24) (.il 0))), (.not (.lt (.il 65535) (.iv 22))), (.not (.lt (.iv 22) (.il 1))), (.eq (.iv 20) (.il 6))]),
    (.ret (.one (.c (.int .i64 (.il 1)))) [] [(.lt (.iv 24) (.il 0)), (.not (.lt (.il 65535) (.iv 22))), (.not (.lt (.iv 22) (.il 1))), (.eq (.iv 20) (.il 6))]),
    (.ret (.one (.c (.int .i64 (.il 1)))) [] [(.lt (.il 65535) (.iv 22)), (.not (.lt (.iv 22) (.il 1))), (.eq (.iv 20) (.il 6))]),
    (.ret (.one (.c (.int .i64 (.il 1)))) [] [(.lt (.iv 22) (.il 1)), (.eq (.iv 20) (.il 6))])] := by kernel_rfl
set_option maxHeartbeats 1000000 in
theorem rchk_runs : ChkRuns Try.prog 179 := by
  intro w b hk
  have hcs : denL (bdEnv plH [] b) (fun _ => 0) bdC = b := (bd_cells hk).symm
  have hcx : chSt.cx.ok (bdEnv plH [] b) := ⟨fun x hx => tb_bs (Nat.zero_le _) (but_self _) x (List.mem_cons_of_mem _ hx), fun t ht => by cases ht⟩
  have e20 : (bdEnv plH [] b).i 20 = gI .i64 b 0 := rfl
  have e21 : (bdEnv plH [] b).i 21 = gI .u32 b 1 := rfl
  have e22 : (bdEnv plH [] b).i 22 = gI .i64 b 2 := rfl
  have e23 : (bdEnv plH [] b).i 23 = gI .u32 b 3 := rfl
  have e24 : (bdEnv plH [] b).i 24 = gI .i64 b 4 := rfl
  refine calls_sm (B := ⟨bdEnv plH [] b, fun _ => False, w, fun _ => 0, 50⟩) (sp := []) (fun i => rfl) (fun q hq => by cases hq) 10 400 Try.func179 rfl chA chSt _ 50 rfl rchk_run (Md.start hcx) ?_ ?_
  · refine ⟨?_, ?_, ?_, ?_, ?_, ?_, ?_, ?_, ?_, ?_, ?_, ?_, ?_, ?_, ?_, ?_, ?_, trivial⟩
    all_goals
      intro hpc β w' hH
      refine ⟨?_, Sy.Only.below_all hH.only⟩
      replace hpc : pcs (bdEnv plH [] b) _ := hpc
      simp only [pcs, t_lt, t_le, t_eq, t_not, i_iv, i_il, e20, e21, e22, e23, e24, and_true] at hpc
      unfold chkE
      first
        | (rw [if_pos (by omega)]; rfl)
        | (rw [if_neg (by omega)]; rfl)
  · show _ = (#[.agg (denL (bdEnv plH [] b) (fun _ => 0) bdC).toArray] : Array Value)
    rw [hcs]
def pbind_sp : List Sy.Spec := [chkSp 177, clSp 178 252]
set_option maxRecDepth 100000 in
theorem pbind_run : smR Try.prog Try.f111 50 (run Try.prog pbind_sp 10 400 50 (.code (bodyOf Try.f111)) (enterS Try.f111 bnA (tbSt 252))) = some [
    (.ret (.one (.c (.int .i64 (.ap 52 bdRow (.il 0) (.il 0))))) [⟨0, 252, [(.slt 40 7 (.il 0) (tlen (.cv 0)) (.il 0))], true, .none, .no⟩, ⟨40, 50, [], true, .none, (.tab bdLv (.cv 0))⟩] [(.not (.eq (.ap 52 bdRow (.il 0) (.il 0)) (.il 0)))]),
    (.ret (.one (.c (.int .i64 (.il 15)))) [⟨0, 252, [(.slt 40 7 (.il 0) (tlen (.cv 0)) (.il 0))], true, .none, .no⟩, ⟨40, 50, [], true, .none, (.tab bdLv (.cv 0))⟩] [(.ap 40 (.cv 0) bdRow (.il 0)), (.eq (.ap 52 bdRow (.il 0) (.il 0)) (.il 0))]),
    (.ret (.one (.c (.int .i64 (.il 9)))) [⟨0, 252, [(.slt 40 7 (.il 0) (tlen (.cv 0)) (.il 0))], true, .none, .no⟩, ⟨40, 50, [], true, .none, (.tab bdLv (.cv 0))⟩] [(.eq (tlen (.cv 0)) (.il 32)), (.not (.ap 40 (.cv 0) bdRow (.il 0))), (.eq (.ap 52 bdRow (.il 0) (.il 0)) (.il 0))]),
    (.ret (.one (.c (.int .i64 (.il 0)))) [⟨66, 50, [], true, .none, (.tab bdLv (.tb .app (.cv 0) bdRow (.il 0)))⟩, ⟨0, 252, [(.slt 66 7 (.il 0) (.add (tlen (.cv 0)) (.il 1)) (.il 0))], true, .none, .no⟩] [(.not (.eq (tlen (.cv 0)) (.il 32))), (.not (.ap 40 (.cv 0) bdRow (.il 0))), (.eq (.ap 52 bdRow (.il 0) (.il 0)) (.il 0))])] := by kernel_rfl
set_option maxHeartbeats 1000000 in
theorem pbind_runs : BindRuns Try.prog 111 252 := by
  intro rows b hn hks hk w g0 g c hB hT hne
  have hcs : denL (bdEnv plH rows b) (ixB g c g0) bdC = b := (bd_cells hk).symm
  have hM0 := md_tab (ρ := bdEnv plH rows b) (β := ixB g c g0) (T := 252) (cx := ⟨tbBs, []⟩) (nx := 50) hB hT hne ⟨tb_bs hn (but_self _), fun t ht => by cases ht⟩
  have h52 : (den (bdEnv plH rows b) (.ap 52 bdRow (.il 0) (.il 0))).i = chkE b := by
    show chkE ((den (bdEnv plH rows b) bdRow).c.headD []) = _
    rw [bdRow_c hk]
    rfl
  have h40 : (den (bdEnv plH rows b) (.ap 40 (.cv 0) bdRow (.il 0))).b = rows.any fun a => clF a b := by
    show (rows.any fun a => clF a ((den (bdEnv plH rows b) bdRow).c.headD [])) = _
    rw [bdRow_c hk]
    rfl
  have hl : (den (bdEnv plH rows b) (tlen (.cv 0))).i = ((rows.length : Nat) : Int) := rfl
  refine calls_sm (B := ⟨bdEnv plH rows b, fun i => i = g0 ∨ c ≠ 0 ∧ i = g, w, ixB g c g0, 50⟩) (sp := pbind_sp) (fun i => rfl) (fun q hq => ?_) 10 400 Try.func111 rfl bnA (tbSt 252) _ 50 rfl pbind_run hM0 ?_ ?_
  · change q ∈ [_, _] at hq
    simp only [List.mem_cons, List.not_mem_nil, or_false] at hq
    rcases hq with rfl | rfl
    · exact chkSp_ok pchk_runs rfl
    · exact clSp_ok pcl_runs rfl
  · refine ⟨?_, ?_, ?_, ?_, trivial⟩
    all_goals
      intro hpc β w' hH
      replace hpc : pcs (bdEnv plH rows b) _ := hpc
      simp only [pcs, t_lt, t_le, t_eq, t_not, i_il, h52, h40, hl, and_true] at hpc
    · have e : bindE rows b = chkE b := by unfold bindE; rw [if_pos hpc]
      have eR : bindR rows b = rows := by unfold bindR; rw [if_neg (by rw [e]; exact hpc)]
      refine ⟨?_, β 40, β 41, ?_⟩
      · rw [e, ← h52]
        rfl
      · rw [eR]
        exact leaf_post (β0 := ixB g c g0) (k := 40) (len := tlen (.cv 0)) (t := .cv 0) rfl hH (by first | exact List.mem_cons_self .. | exact List.mem_cons_of_mem _ (List.mem_cons_self ..)) (by first | exact List.mem_cons_self .. | exact List.mem_cons_of_mem _ (List.mem_cons_self ..)) rfl (by decide)
    · have e : bindE rows b = 15 := by unfold bindE; rw [if_neg (fun h => h hpc.2), if_pos hpc.1]
      have eR : bindR rows b = rows := by unfold bindR; rw [if_neg (by rw [e]; decide)]
      refine ⟨by rw [e]; rfl, β 40, β 41, ?_⟩
      rw [eR]
      exact leaf_post (β0 := ixB g c g0) (k := 40) (len := tlen (.cv 0)) (t := .cv 0) rfl hH (by first | exact List.mem_cons_self .. | exact List.mem_cons_of_mem _ (List.mem_cons_self ..)) (by first | exact List.mem_cons_self .. | exact List.mem_cons_of_mem _ (List.mem_cons_self ..)) rfl (by decide)
    · have e : bindE rows b = 9 := by unfold bindE; rw [if_neg (fun h => h hpc.2.2), if_neg (by have := hpc.2.1; simp only [Bool.not_eq_true] at this ⊢; exact this), if_pos (by omega)]
      have eR : bindR rows b = rows := by unfold bindR; rw [if_neg (by rw [e]; decide)]
      refine ⟨by rw [e]; rfl, β 40, β 41, ?_⟩
      rw [eR]
      exact leaf_post (β0 := ixB g c g0) (k := 40) (len := tlen (.cv 0)) (t := .cv 0) rfl hH (by first | exact List.mem_cons_self .. | exact List.mem_cons_of_mem _ (List.mem_cons_self ..)) (by first | exact List.mem_cons_self .. | exact List.mem_cons_of_mem _ (List.mem_cons_self ..)) rfl (by decide)
    · have e : bindE rows b = 0 := by unfold bindE; rw [if_neg (fun h => h hpc.2.2), if_neg (by have := hpc.2.1; simp only [Bool.not_eq_true] at this ⊢; exact this), if_neg (by omega)]
      have eR : bindR rows b = rows ++ [b] := by unfold bindR; rw [if_pos e]
      have eT : (den (bdEnv plH rows b) (.tb .app (.cv 0) bdRow (.il 0))).c = rows ++ [b] := by
        show rows ++ (den (bdEnv plH rows b) bdRow).c = _
        rw [bdRow_c hk]
      refine ⟨by rw [e]; rfl, β 66, β (66 + 1), ?_⟩
      rw [eR, ← eT]
      exact leaf_post (β0 := ixB g c g0) (k := 66) (len := .add (tlen (.cv 0)) (.il 1)) (t := .tb .app (.cv 0) bdRow (.il 0)) rfl hH (by first | exact List.mem_cons_self .. | exact List.mem_cons_of_mem _ (List.mem_cons_self ..)) (by first | exact List.mem_cons_self .. | exact List.mem_cons_of_mem _ (List.mem_cons_self ..)) (by rw [eT]; show ((rows.length : Nat) : Int) + 1 = _; simp) (by decide)
  · show _ = (#[_, .agg (denL (bdEnv plH rows b) (ixB g c g0) bdC).toArray] : Array Value)
    rw [hcs]
    rfl
def rbind_sp : List Sy.Spec := [chkSp 179, clSp 180 147]
set_option maxRecDepth 100000 in
theorem rbind_run : smR Try.prog Try.f112 50 (run Try.prog rbind_sp 10 400 50 (.code (bodyOf Try.f112)) (enterS Try.f112 bnA (tbSt 147))) = some [
    (.ret (.one (.c (.int .i64 (.ap 52 bdRow (.il 0) (.il 0))))) [⟨0, 147, [(.slt 40 7 (.il 0) (tlen (.cv 0)) (.il 0))], true, .none, .no⟩, ⟨40, 50, [], true, .none, (.tab bdLv (.cv 0))⟩] [(.not (.eq (.ap 52 bdRow (.il 0) (.il 0)) (.il 0)))]),
    (.ret (.one (.c (.int .i64 (.il 15)))) [⟨0, 147, [(.slt 40 7 (.il 0) (tlen (.cv 0)) (.il 0))], true, .none, .no⟩, ⟨40, 50, [], true, .none, (.tab bdLv (.cv 0))⟩] [(.ap 40 (.cv 0) bdRow (.il 0)), (.eq (.ap 52 bdRow (.il 0) (.il 0)) (.il 0))]),
    (.ret (.one (.c (.int .i64 (.il 9)))) [⟨0, 147, [(.slt 40 7 (.il 0) (tlen (.cv 0)) (.il 0))], true, .none, .no⟩, ⟨40, 50, [], true, .none, (.tab bdLv (.cv 0))⟩] [(.lt (.il 31) (tlen (.cv 0))), (.not (.ap 40 (.cv 0) bdRow (.il 0))), (.eq (.ap 52 bdRow (.il 0) (.il 0)) (.il 0))]),
    (.ret (.one (.c (.int .i64 (.il 0)))) [⟨68, 50, [], true, .none, (.tab bdLv (.tb .app (.cv 0) bdRow (.il 0)))⟩, ⟨0, 147, [(.slt 68 7 (.il 0) (.add (tlen (.cv 0)) (.il 1)) (.il 0))], true, .none, .no⟩, ⟨40, 50, [], true, .none, (.tab bdLv (.cv 0))⟩] [(.not (.lt (.il 31) (tlen (.cv 0)))), (.not (.ap 40 (.cv 0) bdRow (.il 0))), (.eq (.ap 52 bdRow (.il 0) (.il 0)) (.il 0))])] := by kernel_rfl
set_option maxHeartbeats 1000000 in
theorem rbind_runs : BindRuns Try.prog 112 147 := by
  intro rows b hn hks hk w g0 g c hB hT hne
  have hcs : denL (bdEnv plH rows b) (ixB g c g0) bdC = b := (bd_cells hk).symm
  have hM0 := md_tab (ρ := bdEnv plH rows b) (β := ixB g c g0) (T := 147) (cx := ⟨tbBs, []⟩) (nx := 50) hB hT hne ⟨tb_bs hn (but_self _), fun t ht => by cases ht⟩
  have h52 : (den (bdEnv plH rows b) (.ap 52 bdRow (.il 0) (.il 0))).i = chkE b := by
    show chkE ((den (bdEnv plH rows b) bdRow).c.headD []) = _
    rw [bdRow_c hk]
    rfl
  have h40 : (den (bdEnv plH rows b) (.ap 40 (.cv 0) bdRow (.il 0))).b = rows.any fun a => clF a b := by
    show (rows.any fun a => clF a ((den (bdEnv plH rows b) bdRow).c.headD [])) = _
    rw [bdRow_c hk]
    rfl
  have hl : (den (bdEnv plH rows b) (tlen (.cv 0))).i = ((rows.length : Nat) : Int) := rfl
  refine calls_sm (B := ⟨bdEnv plH rows b, fun i => i = g0 ∨ c ≠ 0 ∧ i = g, w, ixB g c g0, 50⟩) (sp := rbind_sp) (fun i => rfl) (fun q hq => ?_) 10 400 Try.func112 rfl bnA (tbSt 147) _ 50 rfl rbind_run hM0 ?_ ?_
  · change q ∈ [_, _] at hq
    simp only [List.mem_cons, List.not_mem_nil, or_false] at hq
    rcases hq with rfl | rfl
    · exact chkSp_ok rchk_runs rfl
    · exact clSp_ok cl_runs rfl
  · refine ⟨?_, ?_, ?_, ?_, trivial⟩
    all_goals
      intro hpc β w' hH
      replace hpc : pcs (bdEnv plH rows b) _ := hpc
      simp only [pcs, t_lt, t_le, t_eq, t_not, i_il, h52, h40, hl, and_true] at hpc
    · have e : bindE rows b = chkE b := by unfold bindE; rw [if_pos hpc]
      have eR : bindR rows b = rows := by unfold bindR; rw [if_neg (by rw [e]; exact hpc)]
      refine ⟨?_, β 40, β 41, ?_⟩
      · rw [e, ← h52]
        rfl
      · rw [eR]
        exact leaf_post (β0 := ixB g c g0) (k := 40) (len := tlen (.cv 0)) (t := .cv 0) rfl hH (by first | exact List.mem_cons_self .. | exact List.mem_cons_of_mem _ (List.mem_cons_self ..)) (by first | exact List.mem_cons_self .. | exact List.mem_cons_of_mem _ (List.mem_cons_self ..)) rfl (by decide)
    · have e : bindE rows b = 15 := by unfold bindE; rw [if_neg (fun h => h hpc.2), if_pos hpc.1]
      have eR : bindR rows b = rows := by unfold bindR; rw [if_neg (by rw [e]; decide)]
      refine ⟨by rw [e]; rfl, β 40, β 41, ?_⟩
      rw [eR]
      exact leaf_post (β0 := ixB g c g0) (k := 40) (len := tlen (.cv 0)) (t := .cv 0) rfl hH (by first | exact List.mem_cons_self .. | exact List.mem_cons_of_mem _ (List.mem_cons_self ..)) (by first | exact List.mem_cons_self .. | exact List.mem_cons_of_mem _ (List.mem_cons_self ..)) rfl (by decide)
    · have e : bindE rows b = 9 := by unfold bindE; rw [if_neg (fun h => h hpc.2.2), if_neg (by have := hpc.2.1; simp only [Bool.not_eq_true] at this ⊢; exact this), if_pos (by omega)]
      have eR : bindR rows b = rows := by unfold bindR; rw [if_neg (by rw [e]; decide)]
      refine ⟨by rw [e]; rfl, β 40, β 41, ?_⟩
      rw [eR]
      exact leaf_post (β0 := ixB g c g0) (k := 40) (len := tlen (.cv 0)) (t := .cv 0) rfl hH (by first | exact List.mem_cons_self .. | exact List.mem_cons_of_mem _ (List.mem_cons_self ..)) (by first | exact List.mem_cons_self .. | exact List.mem_cons_of_mem _ (List.mem_cons_self ..)) rfl (by decide)
    · have e : bindE rows b = 0 := by unfold bindE; rw [if_neg (fun h => h hpc.2.2), if_neg (by have := hpc.2.1; simp only [Bool.not_eq_true] at this ⊢; exact this), if_neg (by omega)]
      have eR : bindR rows b = rows ++ [b] := by unfold bindR; rw [if_pos e]
      have eT : (den (bdEnv plH rows b) (.tb .app (.cv 0) bdRow (.il 0))).c = rows ++ [b] := by
        show rows ++ (den (bdEnv plH rows b) bdRow).c = _
        rw [bdRow_c hk]
      refine ⟨by rw [e]; rfl, β 68, β (68 + 1), ?_⟩
      rw [eR, ← eT]
      exact leaf_post (β0 := ixB g c g0) (k := 68) (len := .add (tlen (.cv 0)) (.il 1)) (t := .tb .app (.cv 0) bdRow (.il 0)) rfl hH (by first | exact List.mem_cons_self .. | exact List.mem_cons_of_mem _ (List.mem_cons_self ..)) (by first | exact List.mem_cons_self .. | exact List.mem_cons_of_mem _ (List.mem_cons_self ..)) (by rw [eT]; show ((rows.length : Nat) : Int) + 1 = _; simp) (by decide)
  · show _ = (#[_, .agg (denL (bdEnv plH rows b) (ixB g c g0) bdC).toArray] : Array Value)
    rw [hcs]
    rfl
end Go.Proofs.Ythjigajielhkfaa
