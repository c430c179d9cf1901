/- Pick of both. Printed by gen_pk.py. -/
import Derived.Test.YthjigajielhkfaaPq
namespace Go.Proofs.Ythjigajielhkfaa
open Go.RowKit Sy
set_option linter.unusedVariables false
set_option linter.unusedSimpArgs false

def pkP : List Nat := [1, 1, 1, 1, 1, 0, 1, 2]
def pkSp : List Sy.Spec := [chkSp 177, clSp 178 252, bindSp 111 252]
def pk0 (P : Program) (fn : Func) : Rs := run P pkSp 10 400 50 (.code (pre pkP (bodyOf fn))) (enterS fn pkA (pkSt 252))
def pkT (P : Program) (fn : Func) : Sy.St := tplS (lfAt (pk0 P fn) 1) (lpBody (Sy.sub pkP (bodyOf fn))) [(25, .one (.c (.int .i64 (.iv 0)))), (9, .one (.c (.int .i64 (.iv 2)))), (23, .any 23), (24, .any 24)] [pkBx (.iv 1)] pkCx 70
def pk1 (P : Program) (fn : Func) : Rs := run P pkSp 10 400 50 (.code (lpBody (Sy.sub pkP (bodyOf fn)))) (pkT P fn)
set_option maxRecDepth 100000 in
theorem pk_loop : Code.loop (lpBody (Sy.sub pkP (bodyOf Try.f113))) = Sy.sub pkP (bodyOf Try.f113) := by kernel_rfl
set_option maxRecDepth 100000 in
theorem pk_run0 : shR 50 none (pk0 Try.prog Try.f113) = some [
    .out 0 .ret [.not (.eq (.ap 52 (rwP (.il 49152)) (.il 0) (.il 0)) (.il 0))],
    .out 1 .normal [.lt (.rem (.iv 27) (.il 64)) (.il 0), .eq (.ap 52 (rwP (.il 49152)) (.il 0) (.il 0)) (.il 0)],
    .out 2 .normal [.not (.lt (.rem (.iv 27) (.il 64)) (.il 0)), .eq (.ap 52 (rwP (.il 49152)) (.il 0) (.il 0)) (.il 0)]] := by kernel_rfl
set_option maxRecDepth 100000 in
theorem pk_in1 : (matchS 50 (pkT Try.prog Try.f113) (lfAt (pk0 Try.prog Try.f113) 1)).map noU = some [.i 2 (.add (.rem (.iv 27) (.il 64)) (.il 64)), .i 0 (.il 0), .i 1 (.il 49152)] := by kernel_rfl
set_option maxRecDepth 100000 in
theorem pk_in2 : (matchS 50 (pkT Try.prog Try.f113) (lfAt (pk0 Try.prog Try.f113) 2)).map noU = some [.i 2 (.rem (.iv 27) (.il 64)), .i 0 (.il 0), .i 1 (.il 49152)] := by kernel_rfl
set_option maxRecDepth 100000 in
theorem pk_run1 : shR 50 (some (pkT Try.prog Try.f113)) (pk1 Try.prog Try.f113) = some [
    .out 0 .ret [.not (.eq (.ap 51 (.cv 0) (rwP pkP1) (.il 0)) (.il 0)), .not (.ap 40 (.cv 0) (rwP pkP1) (.il 0)), .lt (.iv 0) (.il 64)],
    .out 1 .ret [.eq (.ap 51 (.cv 0) (rwP pkP1) (.il 0)) (.il 0), .not (.ap 40 (.cv 0) (rwP pkP1) (.il 0)), .lt (.iv 0) (.il 64)],
    .back [.i 0 (.add (.iv 0) (.il 1)), .i 1 pkP1] [.ap 40 (.cv 0) (rwP pkP1) (.il 0), .lt (.iv 0) (.il 64)],
    .out 3 (.exit 0) [.not (.lt (.iv 0) (.il 64))]] := by kernel_rfl
set_option maxRecDepth 100000 in
theorem pk_at0 : (Sy.find 0 (lfAt (pk0 Try.prog Try.f113) 0).hp, (Sy.find 40 (lfAt (pk0 Try.prog Try.f113) 0).hp, retS Try.prog (lfAt (pk0 Try.prog Try.f113) 0) Try.f113.results.toList)) = (some ⟨0, 252, [.slt 40 7 (.il 0) (tlen (.cv 0)) (.il 0)], true, none, .no⟩, (some ⟨40, 50, [], true, none, .tab bdLv (.cv 0)⟩, some (.tup [.c (.int .i64 (.il 0)), .c (.int .i64 (.ap 52 (rwP (.il 49152)) (.il 0) (.il 0)))]))) := by kernel_rfl
set_option maxRecDepth 100000 in
theorem pk_r0 : (Sy.find 0 (lfAt (pk1 Try.prog Try.f113) 0).hp, (Sy.find 70 (lfAt (pk1 Try.prog Try.f113) 0).hp, retS Try.prog (lfAt (pk1 Try.prog Try.f113) 0) Try.f113.results.toList)) = (some ⟨0, 252, [.slt 70 7 (.il 0) (tlen (.ap 50 (.cv 0) (rwP pkP1) (.il 0))) (.il 0)], true, none, .no⟩, (some ⟨70, 50, [], true, none, .tab bdLv (.ap 50 (.cv 0) (rwP pkP1) (.il 0))⟩, some (.tup [.c (.int .i64 (.il 0)), .c (.int .i64 (.ap 51 (.cv 0) (rwP pkP1) (.il 0)))]))) := by kernel_rfl
set_option maxRecDepth 100000 in
theorem pk_r1 : (Sy.find 0 (lfAt (pk1 Try.prog Try.f113) 1).hp, (Sy.find 70 (lfAt (pk1 Try.prog Try.f113) 1).hp, retS Try.prog (lfAt (pk1 Try.prog Try.f113) 1) Try.f113.results.toList)) = (some ⟨0, 252, [.slt 70 7 (.il 0) (tlen (.ap 50 (.cv 0) (rwP pkP1) (.il 0))) (.il 0)], true, none, .no⟩, (some ⟨70, 50, [], true, none, .tab bdLv (.ap 50 (.cv 0) (rwP pkP1) (.il 0))⟩, some (.tup [.c (.int .i64 pkP1), .c (.int .i64 (.il 0))]))) := by kernel_rfl
set_option maxRecDepth 100000 in
theorem pk_fin : smR Try.prog Try.f113 50 (run Try.prog pkSp 10 400 50 (.code (aft (.exit 0) pkP (bodyOf Try.f113))) (lfAt (pk1 Try.prog Try.f113) 3)) = some
    [.ret (.tup [.c (.int .i64 (.il 0)), .c (.int .i64 (.il 15))]) [tbOb 252, tbTb] [.not (.lt (.iv 0) (.il 64))]] := by kernel_rfl
theorem pk_sp {rows : List (List Value)} {b : List Value} {sd : Int} {ρ : Env} (I : PkI rows b sd ρ) : ∀ q ∈ pkSp, q.Ok Try.prog ρ := by
  intro q hq
  change q ∈ [_, _, _] at hq
  simp only [List.mem_cons, List.not_mem_nil, or_false] at hq
  have h := I.f
  rcases hq with rfl | rfl | rfl
  · exact chkSp_ok pchk_runs (by rw [h])
  · exact clSp_ok pcl_runs (by rw [h]; rfl)
  · exact bindSp_ok pbind_runs (by rw [h]) (by rw [h])
section
variable {rows : List (List Value)} {b : List Value} {sd : Int}
set_option maxHeartbeats 1000000 in
/-- The rounds. -/
theorem pk_rounds (hn : rows.length ≤ 32) (hk : kAll bdLv b) (hs : IntKind.i64.wrap sd = sd) (h0 : chkE (setP b 49152) = 0) {ρ : Env} (I : PkI rows b sd ρ) {w w1 : World} {g0 g c : Nat} {β : Bn} {a : Act} (hM : Md ρ (fun i => i = g0 ∨ c ≠ 0 ∧ i = g) w (ixB g c g0) 50 (pkT Try.prog Try.f113) β a w1) :
    (Sy.sub pkP (bodyOf Try.f113)).wp Try.prog (ctx Try.prog pkP (bodyOf Try.f113) (bodyPost Try.prog Try.f113 (RetP (pkR rows b sd w g0 g c 252)))) a w1 := by
  rw [← pk_loop]
  refine loop_wp (w0 := w) (r := pk1 Try.prog Try.f113) rfl pk_run1 (PkI rows b sd) (fun ρ => 64 - (ρ.i 0).toNat) (fun ρ I => I.g) (fun ρ I => pk_sp I) (fun ρ I => I.cx hn hs) ?_ I hM
  intro ρ I
  refine ⟨?_, ?_, ?_, ?_, trivial⟩
  · intro hpc β a w' hM
    replace hpc : pcs ρ _ := hpc
    have h40 := I.h40 hk I.p1
    have h51 := I.h51 hk I.p1
    have h50 := I.h50 hk I.p1
    obtain ⟨q51, q40, qlt, _⟩ := hpc
    rw [t_lt, i_iv, i_il] at qlt
    have hf := I.found qlt (by rw [← h40]; rw [t_not, Bool.not_eq_true] at q40; exact q40)
    refine ctx_ret (P := Try.prog) pkP (bodyOf Try.f113) _ (pk_ret hM (k := 70) (by decide) pk_r0 rfl ?_ ?_ (by rw [h50, pickR_i h0 hf]))
    · rw [pickP_i h0 hf, if_neg (by rw [← h51]; rw [t_not, t_eq] at q51; exact q51)]
      rfl
    · rw [pickE_i h0 hf, h51]
  · intro hpc β a w' hM
    replace hpc : pcs ρ _ := hpc
    have h40 := I.h40 hk I.p1
    have h51 := I.h51 hk I.p1
    have h50 := I.h50 hk I.p1
    obtain ⟨q51, q40, qlt, _⟩ := hpc
    rw [t_lt, i_iv, i_il] at qlt
    have hf := I.found qlt (by rw [← h40]; rw [t_not, Bool.not_eq_true] at q40; exact q40)
    refine ctx_ret (P := Try.prog) pkP (bodyOf Try.f113) _ (pk_ret hM (k := 70) (by decide) pk_r1 rfl ?_ ?_ (by rw [h50, pickR_i h0 hf]))
    · rw [pickP_i h0 hf, if_pos (by rw [← h51]; rw [t_eq] at q51; exact q51)]
      exact I.p1
    · rw [pickE_i h0 hf, ← h51]
      rw [t_eq] at q51
      exact q51.symm
  · intro hpc β u
    replace hpc : pcs ρ _ := hpc
    have h40 := I.h40 hk I.p1
    have h51 := I.h51 hk I.p1
    have h50 := I.h50 hk I.p1
    obtain ⟨q40, qlt, _⟩ := hpc
    rw [t_lt, i_iv, i_il] at qlt
    exact I.next qlt (by rw [← h40]; exact q40) β pkP1 u
  · intro hpc β a w' hM
    replace hpc : pcs ρ _ := hpc
    simp only [pcs, t_not, t_lt, i_iv, i_il, and_true] at hpc
    obtain ⟨x1, x2, x3⟩ := pick_no h0 (I.full hpc)
    refine aft_fin (B := ⟨ρ, fun i => i = g0 ∨ c ≠ 0 ∧ i = g, w, ixB g c g0, 50⟩) I.g (pk_sp I) rfl (.exit 0) pk_fin ?_ hM
    refine ⟨?_, trivial⟩
    intro _ β2 w2 hH
    refine ⟨by rw [x1, x2]; rfl, β2 40, β2 41, ?_⟩
    rw [x3]
    have e : (den ρ (.cv 0)).c = rows := by show ρ.c 0 = rows; rw [I.c]; rfl
    rw [← e]
    exact leaf_post (β0 := ixB g c g0) (k := 40) (len := tlen (.cv 0)) (t := .cv 0) rfl hH (List.mem_cons_self ..) (List.mem_cons_of_mem _ (List.mem_cons_self ..)) rfl (by decide)
set_option maxHeartbeats 1000000 in
theorem pk_runs : PickRuns Try.prog 113 252 := by
  intro rows b sd hn hks hk hs w g0 g c hB hT hne
  have I0 := pk_start rows b sd
  have hcs : denL (pkEnv rows b sd) (ixB g c g0) bdC = b := (bd_cells hk).symm
  have h52 := I0.h52 hk (p := .il 49152) (q := 49152) rfl
  have hM0 := md_tab (ρ := pkEnv rows b sd) (β := ixB g c g0) (T := 252) (cx := ⟨i64B 27 :: tbBs, []⟩) (nx := 50) hB hT hne ⟨I0.bs hn hs, fun t ht => by cases ht⟩
  refine calls_pre (B := ⟨pkEnv rows b sd, fun i => i = g0 ∨ c ≠ 0 ∧ i = g, w, ixB g c g0, 50⟩) (sp := pkSp) (p := pkP) (xs := pkA) (s := pkSt 252) (r := pk0 Try.prog Try.f113) (fun i => rfl) (pk_sp I0) rfl Try.func113 rfl rfl pk_run0 hM0 ⟨?_, ?_, ?_, trivial⟩ ?_
  · intro hpc β a w' hM
    have q := hpc.1
    rw [t_not, t_eq] at q
    have q : ¬ (den (pkEnv rows b sd) (.ap 52 (rwP (.il 49152)) (.il 0) (.il 0))).i = 0 := q
    rw [h52] at q
    obtain ⟨x1, x2, x3⟩ := pick_bad (rows := rows) (sd := sd) q
    exact ctx_ret (P := Try.prog) pkP (bodyOf Try.f113) _ (pk_ret hM (k := 40) (by decide) pk_at0 rfl x2.symm (by rw [x1, h52]) x3.symm)
  · intro hpc β a w1 hM1
    have q := hpc.2.1
    rw [t_eq] at q
    have q : (den (pkEnv rows b sd) (.ap 52 (rwP (.il 49152)) (.il 0) (.il 0))).i = 0 := q
    rw [h52] at q
    have hI : ∀ u, PkI rows b sd { (pkEnv rows b sd).sub β [.i 2 (.add (.rem (.iv 27) (.il 64)) (.il 64)), .i 0 (.il 0), .i 1 (.il 49152)] with u := u } := fun u => by
      refine ⟨fun i => rfl, fun n hn => ?_, rfl, rfl, rfl, ?_, Int.le_refl 0, by show (0 : Int) ≤ 64; omega, fun j hj => absurd hj (Nat.not_lt_zero j)⟩
      · rcases n with _ | _ | _ | n
        · exact absurd hn (by decide)
        · exact absurd hn (by decide)
        · exact absurd hn (by decide)
        · rfl
      exact by
        have q := hpc.1
        rw [t_lt] at q
        have q : Int.tmod sd 64 < 0 := q
        show Int.tmod sd 64 + 64 = sd % 64
        have h := Int.mul_tdiv_add_tmod sd 64
        have h1 := Int.tmod_lt_of_pos sd (show (0 : Int) < 64 by decide)
        have h2 := Int.lt_tmod_of_pos sd (show (0 : Int) < 64 by decide)
        generalize Int.tdiv sd 64 = q1 at h
        omega
    obtain ⟨u, β', hM2⟩ := Sy.Md.enter hM1 pk_in1 fun u => (hI u).cx hn hs
    exact pk_rounds hn hk hs q (hI u) hM2
  · intro hpc β a w1 hM1
    have q := hpc.2.1
    rw [t_eq] at q
    have q : (den (pkEnv rows b sd) (.ap 52 (rwP (.il 49152)) (.il 0) (.il 0))).i = 0 := q
    rw [h52] at q
    have hI : ∀ u, PkI rows b sd { (pkEnv rows b sd).sub β [.i 2 (.rem (.iv 27) (.il 64)), .i 0 (.il 0), .i 1 (.il 49152)] with u := u } := fun u => by
      refine ⟨fun i => rfl, fun n hn => ?_, rfl, rfl, rfl, ?_, Int.le_refl 0, by show (0 : Int) ≤ 64; omega, fun j hj => absurd hj (Nat.not_lt_zero j)⟩
      · rcases n with _ | _ | _ | n
        · exact absurd hn (by decide)
        · exact absurd hn (by decide)
        · exact absurd hn (by decide)
        · rfl
      exact by
        have q := hpc.1
        rw [t_not, t_lt] at q
        have q : ¬ Int.tmod sd 64 < 0 := q
        show Int.tmod sd 64 = sd % 64
        have h := Int.mul_tdiv_add_tmod sd 64
        have h1 := Int.tmod_lt_of_pos sd (show (0 : Int) < 64 by decide)
        generalize Int.tdiv sd 64 = q1 at h
        omega
    obtain ⟨u, β', hM2⟩ := Sy.Md.enter hM1 pk_in2 fun u => (hI u).cx hn hs
    exact pk_rounds hn hk hs q (hI u) hM2
  · show _ = (#[_, .agg (denL (pkEnv rows b sd) (ixB g c g0) bdC).toArray, .int .i64 sd] : Array Value)
    rw [hcs]
    rfl
end
def rkP : List Nat := [1, 1, 1, 0, 1, 2]
def rkSp : List Sy.Spec := [chkSp 179, clSp 180 147, bindSp 112 147]
def rk0 (P : Program) (fn : Func) : Rs := run P rkSp 10 400 50 (.code (pre rkP (bodyOf fn))) (enterS fn pkA (pkSt 147))
def rkT (P : Program) (fn : Func) : Sy.St := tplS (lfAt (rk0 P fn) 1) (lpBody (Sy.sub rkP (bodyOf fn))) [(18, .one (.c (.int .i64 (.iv 0))))] [pkBx (.iv 1)] pkCx 70
def rk1 (P : Program) (fn : Func) : Rs := run P rkSp 10 400 50 (.code (lpBody (Sy.sub rkP (bodyOf fn)))) (rkT P fn)
set_option maxRecDepth 100000 in
theorem rk_loop : Code.loop (lpBody (Sy.sub rkP (bodyOf Try.f114))) = Sy.sub rkP (bodyOf Try.f114) := by kernel_rfl
set_option maxRecDepth 100000 in
theorem rk_run0 : shR 50 none (rk0 Try.prog Try.f114) = some [
    .out 0 .ret [.not (.eq (.ap 52 (rwP (.il 49152)) (.il 0) (.il 0)) (.il 0))],
    .out 1 .normal [.eq (.ap 52 (rwP (.il 49152)) (.il 0) (.il 0)) (.il 0)]] := by kernel_rfl
set_option maxRecDepth 100000 in
theorem rk_in1 : (matchS 50 (rkT Try.prog Try.f114) (lfAt (rk0 Try.prog Try.f114) 1)).map noU = some [.i 0 (.il 0), .i 1 (.il 49152)] := by kernel_rfl
set_option maxRecDepth 100000 in
theorem rk_run1 : shR 50 (some (rkT Try.prog Try.f114)) (rk1 Try.prog Try.f114) = some [
    .back [.i 0 (.add (.iv 0) (.il 1)), .i 1 pkP2] [.ap 40 (.cv 0) (rwP pkP2) (.il 0), .lt (.rem (.iv 27) (.il 64)) (.il 0), .lt (.iv 0) (.il 64)],
    .out 1 .ret [.not (.eq (.ap 51 (.cv 0) (rwP pkP2) (.il 0)) (.il 0)), .not (.ap 40 (.cv 0) (rwP pkP2) (.il 0)), .lt (.rem (.iv 27) (.il 64)) (.il 0), .lt (.iv 0) (.il 64)],
    .out 2 .ret [.eq (.ap 51 (.cv 0) (rwP pkP2) (.il 0)) (.il 0), .not (.ap 40 (.cv 0) (rwP pkP2) (.il 0)), .lt (.rem (.iv 27) (.il 64)) (.il 0), .lt (.iv 0) (.il 64)],
    .back [.i 0 (.add (.iv 0) (.il 1)), .i 1 pkP3] [.ap 40 (.cv 0) (rwP pkP3) (.il 0), .not (.lt (.rem (.iv 27) (.il 64)) (.il 0)), .lt (.iv 0) (.il 64)],
    .out 4 .ret [.not (.eq (.ap 51 (.cv 0) (rwP pkP3) (.il 0)) (.il 0)), .not (.ap 40 (.cv 0) (rwP pkP3) (.il 0)), .not (.lt (.rem (.iv 27) (.il 64)) (.il 0)), .lt (.iv 0) (.il 64)],
    .out 5 .ret [.eq (.ap 51 (.cv 0) (rwP pkP3) (.il 0)) (.il 0), .not (.ap 40 (.cv 0) (rwP pkP3) (.il 0)), .not (.lt (.rem (.iv 27) (.il 64)) (.il 0)), .lt (.iv 0) (.il 64)],
    .out 6 (.exit 0) [.not (.lt (.iv 0) (.il 64))]] := by kernel_rfl
set_option maxRecDepth 100000 in
theorem rk_at0 : (Sy.find 0 (lfAt (rk0 Try.prog Try.f114) 0).hp, (Sy.find 40 (lfAt (rk0 Try.prog Try.f114) 0).hp, retS Try.prog (lfAt (rk0 Try.prog Try.f114) 0) Try.f114.results.toList)) = (some ⟨0, 147, [.slt 40 7 (.il 0) (tlen (.cv 0)) (.il 0)], true, none, .no⟩, (some ⟨40, 50, [], true, none, .tab bdLv (.cv 0)⟩, some (.tup [.c (.int .i64 (.il 0)), .c (.int .i64 (.ap 52 (rwP (.il 49152)) (.il 0) (.il 0)))]))) := by kernel_rfl
set_option maxRecDepth 100000 in
theorem rk_r1 : (Sy.find 0 (lfAt (rk1 Try.prog Try.f114) 1).hp, (Sy.find 70 (lfAt (rk1 Try.prog Try.f114) 1).hp, retS Try.prog (lfAt (rk1 Try.prog Try.f114) 1) Try.f114.results.toList)) = (some ⟨0, 147, [.slt 70 7 (.il 0) (tlen (.ap 50 (.cv 0) (rwP pkP2) (.il 0))) (.il 0)], true, none, .no⟩, (some ⟨70, 50, [], true, none, .tab bdLv (.ap 50 (.cv 0) (rwP pkP2) (.il 0))⟩, some (.tup [.c (.int .i64 (.il 0)), .c (.int .i64 (.ap 51 (.cv 0) (rwP pkP2) (.il 0)))]))) := by kernel_rfl
set_option maxRecDepth 100000 in
theorem rk_r2 : (Sy.find 0 (lfAt (rk1 Try.prog Try.f114) 2).hp, (Sy.find 70 (lfAt (rk1 Try.prog Try.f114) 2).hp, retS Try.prog (lfAt (rk1 Try.prog Try.f114) 2) Try.f114.results.toList)) = (some ⟨0, 147, [.slt 70 7 (.il 0) (tlen (.ap 50 (.cv 0) (rwP pkP2) (.il 0))) (.il 0)], true, none, .no⟩, (some ⟨70, 50, [], true, none, .tab bdLv (.ap 50 (.cv 0) (rwP pkP2) (.il 0))⟩, some (.tup [.c (.int .i64 pkP2), .c (.int .i64 (.il 0))]))) := by kernel_rfl
set_option maxRecDepth 100000 in
theorem rk_r4 : (Sy.find 0 (lfAt (rk1 Try.prog Try.f114) 4).hp, (Sy.find 70 (lfAt (rk1 Try.prog Try.f114) 4).hp, retS Try.prog (lfAt (rk1 Try.prog Try.f114) 4) Try.f114.results.toList)) = (some ⟨0, 147, [.slt 70 7 (.il 0) (tlen (.ap 50 (.cv 0) (rwP pkP3) (.il 0))) (.il 0)], true, none, .no⟩, (some ⟨70, 50, [], true, none, .tab bdLv (.ap 50 (.cv 0) (rwP pkP3) (.il 0))⟩, some (.tup [.c (.int .i64 (.il 0)), .c (.int .i64 (.ap 51 (.cv 0) (rwP pkP3) (.il 0)))]))) := by kernel_rfl
set_option maxRecDepth 100000 in
theorem rk_r5 : (Sy.find 0 (lfAt (rk1 Try.prog Try.f114) 5).hp, (Sy.find 70 (lfAt (rk1 Try.prog Try.f114) 5).hp, retS Try.prog (lfAt (rk1 Try.prog Try.f114) 5) Try.f114.results.toList)) = (some ⟨0, 147, [.slt 70 7 (.il 0) (tlen (.ap 50 (.cv 0) (rwP pkP3) (.il 0))) (.il 0)], true, none, .no⟩, (some ⟨70, 50, [], true, none, .tab bdLv (.ap 50 (.cv 0) (rwP pkP3) (.il 0))⟩, some (.tup [.c (.int .i64 pkP3), .c (.int .i64 (.il 0))]))) := by kernel_rfl
set_option maxRecDepth 100000 in
theorem rk_fin : smR Try.prog Try.f114 50 (run Try.prog rkSp 10 400 50 (.code (aft (.exit 0) rkP (bodyOf Try.f114))) (lfAt (rk1 Try.prog Try.f114) 6)) = some
    [.ret (.tup [.c (.int .i64 (.il 0)), .c (.int .i64 (.il 15))]) [tbOb 147, tbTb] [.not (.lt (.iv 0) (.il 64))]] := by kernel_rfl
theorem rk_sp {rows : List (List Value)} {b : List Value} {sd : Int} {ρ : Env} (I : PkI rows b sd ρ) : ∀ q ∈ rkSp, q.Ok Try.prog ρ := by
  intro q hq
  change q ∈ [_, _, _] at hq
  simp only [List.mem_cons, List.not_mem_nil, or_false] at hq
  have h := I.f
  rcases hq with rfl | rfl | rfl
  · exact chkSp_ok rchk_runs (by rw [h])
  · exact clSp_ok cl_runs (by rw [h]; rfl)
  · exact bindSp_ok rbind_runs (by rw [h]) (by rw [h])
section
variable {rows : List (List Value)} {b : List Value} {sd : Int}
set_option maxHeartbeats 1000000 in
/-- The rounds. -/
theorem rk_rounds (hn : rows.length ≤ 32) (hk : kAll bdLv b) (hs : IntKind.i64.wrap sd = sd) (h0 : chkE (setP b 49152) = 0) {ρ : Env} (I : PkI rows b sd ρ) {w w1 : World} {g0 g c : Nat} {β : Bn} {a : Act} (hM : Md ρ (fun i => i = g0 ∨ c ≠ 0 ∧ i = g) w (ixB g c g0) 50 (rkT Try.prog Try.f114) β a w1) :
    (Sy.sub rkP (bodyOf Try.f114)).wp Try.prog (ctx Try.prog rkP (bodyOf Try.f114) (bodyPost Try.prog Try.f114 (RetP (pkR rows b sd w g0 g c 147)))) a w1 := by
  rw [← rk_loop]
  refine loop_wp (w0 := w) (r := rk1 Try.prog Try.f114) rfl rk_run1 (PkI rows b sd) (fun ρ => 64 - (ρ.i 0).toNat) (fun ρ I => I.g) (fun ρ I => rk_sp I) (fun ρ I => I.cx hn hs) ?_ I hM
  intro ρ I
  refine ⟨?_, ?_, ?_, ?_, ?_, ?_, ?_, trivial⟩
  · intro hpc β u
    replace hpc : pcs ρ _ := hpc
    have h40 := I.h40 hk I.p2
    have h51 := I.h51 hk I.p2
    have h50 := I.h50 hk I.p2
    obtain ⟨q40, _, qlt, _⟩ := hpc
    rw [t_lt, i_iv, i_il] at qlt
    exact I.next qlt (by rw [← h40]; exact q40) β pkP2 u
  · intro hpc β a w' hM
    replace hpc : pcs ρ _ := hpc
    have h40 := I.h40 hk I.p2
    have h51 := I.h51 hk I.p2
    have h50 := I.h50 hk I.p2
    obtain ⟨q51, q40, _, qlt, _⟩ := hpc
    rw [t_lt, i_iv, i_il] at qlt
    have hf := I.found qlt (by rw [← h40]; rw [t_not, Bool.not_eq_true] at q40; exact q40)
    refine ctx_ret (P := Try.prog) rkP (bodyOf Try.f114) _ (pk_ret hM (k := 70) (by decide) rk_r1 rfl ?_ ?_ (by rw [h50, pickR_i h0 hf]))
    · rw [pickP_i h0 hf, if_neg (by rw [← h51]; rw [t_not, t_eq] at q51; exact q51)]
      rfl
    · rw [pickE_i h0 hf, h51]
  · intro hpc β a w' hM
    replace hpc : pcs ρ _ := hpc
    have h40 := I.h40 hk I.p2
    have h51 := I.h51 hk I.p2
    have h50 := I.h50 hk I.p2
    obtain ⟨q51, q40, _, qlt, _⟩ := hpc
    rw [t_lt, i_iv, i_il] at qlt
    have hf := I.found qlt (by rw [← h40]; rw [t_not, Bool.not_eq_true] at q40; exact q40)
    refine ctx_ret (P := Try.prog) rkP (bodyOf Try.f114) _ (pk_ret hM (k := 70) (by decide) rk_r2 rfl ?_ ?_ (by rw [h50, pickR_i h0 hf]))
    · rw [pickP_i h0 hf, if_pos (by rw [← h51]; rw [t_eq] at q51; exact q51)]
      exact I.p2
    · rw [pickE_i h0 hf, ← h51]
      rw [t_eq] at q51
      exact q51.symm
  · intro hpc β u
    replace hpc : pcs ρ _ := hpc
    have h40 := I.h40 hk I.p3
    have h51 := I.h51 hk I.p3
    have h50 := I.h50 hk I.p3
    obtain ⟨q40, _, qlt, _⟩ := hpc
    rw [t_lt, i_iv, i_il] at qlt
    exact I.next qlt (by rw [← h40]; exact q40) β pkP3 u
  · intro hpc β a w' hM
    replace hpc : pcs ρ _ := hpc
    have h40 := I.h40 hk I.p3
    have h51 := I.h51 hk I.p3
    have h50 := I.h50 hk I.p3
    obtain ⟨q51, q40, _, qlt, _⟩ := hpc
    rw [t_lt, i_iv, i_il] at qlt
    have hf := I.found qlt (by rw [← h40]; rw [t_not, Bool.not_eq_true] at q40; exact q40)
    refine ctx_ret (P := Try.prog) rkP (bodyOf Try.f114) _ (pk_ret hM (k := 70) (by decide) rk_r4 rfl ?_ ?_ (by rw [h50, pickR_i h0 hf]))
    · rw [pickP_i h0 hf, if_neg (by rw [← h51]; rw [t_not, t_eq] at q51; exact q51)]
      rfl
    · rw [pickE_i h0 hf, h51]
  · intro hpc β a w' hM
    replace hpc : pcs ρ _ := hpc
    have h40 := I.h40 hk I.p3
    have h51 := I.h51 hk I.p3
    have h50 := I.h50 hk I.p3
    obtain ⟨q51, q40, _, qlt, _⟩ := hpc
    rw [t_lt, i_iv, i_il] at qlt
    have hf := I.found qlt (by rw [← h40]; rw [t_not, Bool.not_eq_true] at q40; exact q40)
    refine ctx_ret (P := Try.prog) rkP (bodyOf Try.f114) _ (pk_ret hM (k := 70) (by decide) rk_r5 rfl ?_ ?_ (by rw [h50, pickR_i h0 hf]))
    · rw [pickP_i h0 hf, if_pos (by rw [← h51]; rw [t_eq] at q51; exact q51)]
      exact I.p3
    · rw [pickE_i h0 hf, ← h51]
      rw [t_eq] at q51
      exact q51.symm
  · intro hpc β a w' hM
    replace hpc : pcs ρ _ := hpc
    simp only [pcs, t_not, t_lt, i_iv, i_il, and_true] at hpc
    obtain ⟨x1, x2, x3⟩ := pick_no h0 (I.full hpc)
    refine aft_fin (B := ⟨ρ, fun i => i = g0 ∨ c ≠ 0 ∧ i = g, w, ixB g c g0, 50⟩) I.g (rk_sp I) rfl (.exit 0) rk_fin ?_ hM
    refine ⟨?_, trivial⟩
    intro _ β2 w2 hH
    refine ⟨by rw [x1, x2]; rfl, β2 40, β2 41, ?_⟩
    rw [x3]
    have e : (den ρ (.cv 0)).c = rows := by show ρ.c 0 = rows; rw [I.c]; rfl
    rw [← e]
    exact leaf_post (β0 := ixB g c g0) (k := 40) (len := tlen (.cv 0)) (t := .cv 0) rfl hH (List.mem_cons_self ..) (List.mem_cons_of_mem _ (List.mem_cons_self ..)) rfl (by decide)
set_option maxHeartbeats 1000000 in
theorem rk_runs : PickRuns Try.prog 114 147 := by
  intro rows b sd hn hks hk hs w g0 g c hB hT hne
  have I0 := pk_start rows b sd
  have hcs : denL (pkEnv rows b sd) (ixB g c g0) bdC = b := (bd_cells hk).symm
  have h52 := I0.h52 hk (p := .il 49152) (q := 49152) rfl
  have hM0 := md_tab (ρ := pkEnv rows b sd) (β := ixB g c g0) (T := 147) (cx := ⟨i64B 27 :: tbBs, []⟩) (nx := 50) hB hT hne ⟨I0.bs hn hs, fun t ht => by cases ht⟩
  refine calls_pre (B := ⟨pkEnv rows b sd, fun i => i = g0 ∨ c ≠ 0 ∧ i = g, w, ixB g c g0, 50⟩) (sp := rkSp) (p := rkP) (xs := pkA) (s := pkSt 147) (r := rk0 Try.prog Try.f114) (fun i => rfl) (rk_sp I0) rfl Try.func114 rfl rfl rk_run0 hM0 ⟨?_, ?_, trivial⟩ ?_
  · intro hpc β a w' hM
    have q := hpc.1
    rw [t_not, t_eq] at q
    have q : ¬ (den (pkEnv rows b sd) (.ap 52 (rwP (.il 49152)) (.il 0) (.il 0))).i = 0 := q
    rw [h52] at q
    obtain ⟨x1, x2, x3⟩ := pick_bad (rows := rows) (sd := sd) q
    exact ctx_ret (P := Try.prog) rkP (bodyOf Try.f114) _ (pk_ret hM (k := 40) (by decide) rk_at0 rfl x2.symm (by rw [x1, h52]) x3.symm)
  · intro hpc β a w1 hM1
    have q := hpc.1
    rw [t_eq] at q
    have q : (den (pkEnv rows b sd) (.ap 52 (rwP (.il 49152)) (.il 0) (.il 0))).i = 0 := q
    rw [h52] at q
    have hI : ∀ u, PkI rows b sd { (pkEnv rows b sd).sub β [.i 0 (.il 0), .i 1 (.il 49152)] with u := u } := fun u => by
      refine ⟨fun i => rfl, fun n hn => ?_, rfl, rfl, rfl, ?_, Int.le_refl 0, by show (0 : Int) ≤ 64; omega, fun j hj => absurd hj (Nat.not_lt_zero j)⟩
      · rcases n with _ | _ | _ | n
        · exact absurd hn (by decide)
        · exact absurd hn (by decide)
        · exact absurd hn (by decide)
        · rfl
      exact rfl
    obtain ⟨u, β', hM2⟩ := Sy.Md.enter hM1 rk_in1 fun u => (hI u).cx hn hs
    exact rk_rounds hn hk hs q (hI u) hM2
  · show _ = (#[_, .agg (denL (pkEnv rows b sd) (ixB g c g0) bdC).toArray, .int .i64 sd] : Array Value)
    rw [hcs]
    rfl
end
end Go.Proofs.Ythjigajielhkfaa
