/- Cover of the reference; the law's walk. -/
import Derived.Test.YtagdnjhkoajbnaaDoorCv6
namespace Go.Proofs.YtagdnjhkoajbnaaDoor
open Go.RowKit Sy
set_option linter.unusedVariables false
set_option linter.unusedSimpArgs false

def rcSt : Sy.St := ⟨[], [], ⟨⟨.iv 9, 32, 32⟩ :: coBs, []⟩, 50⟩
set_option maxRecDepth 100000 in
theorem rc_run : smR Tryd.prog Tryd.f5 50 (run Tryd.prog [cvSp 9] 10 400 50 (.code (bodyOf Tryd.f5)) (enterS Tryd.f5 coA rcSt)) = some [
    .ret (.tup [.c .nslc, .c (.int .i64 (.il 1))]) [] [.lt (.iv 3) (.iv 2)],
    .ret (.tup [.c (.slt 50 2 (.il 0) (tlen (.ap 62 (pxT (.il 0) (.il 0)) (.iv 2) (.iv 3))) (.il 0)), .c (.int .i64 (.il 0))]) [⟨50, 29, [], true, none, .tab pxLv (.ap 62 (pxT (.il 0) (.il 0)) (.iv 2) (.iv 3))⟩] [.not (.lt (.iv 3) (.iv 2))]] := by kernel_rfl
theorem rco_runs {w0 : World} {f t : Nat} (hf : f ≤ 4294967295) (ht : t ≤ 4294967295) :
    Calls Tryd.prog 5 #[.int .u32 (f : Int), .int .u32 (t : Int)] w0 (RetP fun v w' => ∃ x, v = .tuple #[x, .int .i64 (coE f t)] ∧ NewTab w0 w' x 29 pxLv (coRows f t)) := by
  let ρ0 : Env := { mkEnv0 [0, 0, (f : Int), (t : Int), 0, 0, 0, 0, 0, 32] [] [] [] with f := cvF }
  have hcx : rcSt.cx.ok ρ0 := by
    refine ⟨fun z hz => ?_, fun t ht => by cases ht⟩
    change z ∈ [_, _, _] at hz
    simp only [List.mem_cons, List.not_mem_nil, or_false] at hz
    rcases hz with rfl | rfl | rfl
    · show (32 : Int) ≤ 32 ∧ (32 : Int) ≤ 32
      omega
    · show (0 : Int) ≤ (f : Int) ∧ (f : Int) ≤ 4294967295
      omega
    · show (0 : Int) ≤ (t : Int) ∧ (t : Int) ≤ 4294967295
      omega
  refine calls_sm (B := ⟨ρ0, fun _ => False, w0, fun _ => 0, 50⟩) (sp := [cvSp 9]) (fun i => rfl) (fun q hq => ?_) 10 400 Tryd.func5 rfl coA rcSt _ 50 rfl rc_run (Md.start hcx) ?_ rfl
  · rw [List.mem_singleton.1 hq]
    exact cvSp_ok rfl fun _ => cv_all 32 (Nat.le_refl _)
  refine ⟨?_, ?_, trivial⟩
  · intro hpc β w' hH
    have hlt : t < f := by
      have := hpc.1
      rw [t_lt] at this
      have this : (t : Int) < (f : Int) := this
      omega
    refine ⟨.slice none 0 0, ?_, ?_⟩
    · unfold coE
      rw [if_pos hlt]
      rfl
    · unfold coRows
      rw [if_pos hlt]
      exact newTab_nil (Sy.Only.below_all hH.only) _ _
  · intro hpc β w' hH
    have hge : ¬ t < f := by
      have := hpc.1
      rw [t_not, t_lt] at this
      have this : ¬ (t : Int) < (f : Int) := this
      omega
    have hc := cv_den (ρ := ρ0) rfl (a := .il 0) (b := .il 0) (x := .iv 2) (y := .iv 3) (k := 32) (s := 0) (f := f) (t := t) (by omega) rfl (by omega) rfl rfl rfl
    refine ⟨C.den ρ0 β (.slt 50 2 (.il 0) (tlen (.ap 62 (pxT (.il 0) (.il 0)) (.iv 2) (.iv 3))) (.il 0)), ?_, ?_⟩
    · unfold coE
      rw [if_neg hge]
      rfl
    · unfold coRows
      rw [if_neg hge, ← hc]
      exact newTab_hp hH (l := 50) (L := tlen (.ap 62 (pxT (.il 0) (.il 0)) (.iv 2) (.iv 3))) (List.mem_cons_self ..) rfl
def spOut (x : V1) : SV := .tup [x, .c (.int .i64 (.iv 21))]
def spBs : List Bd := [⟨.iv 20, 0, 4294967296⟩, ⟨tlen (.cv 20), 0, 4294967296⟩]
def laSp : List Sy.Spec := [ntSp 5 (fun _ xs => sameT coA xs) 29 pxLv 20 spOut spBs, eqSp 6 29 pxLv]
def laP : List Nat := [1, 0]
def laSt : Sy.St := ⟨[], [], ⟨coBs, []⟩, 0⟩
def la0 (P : Program) (fn : Func) : Rs := run P [] 10 400 0 (.code (pre laP (bodyOf fn))) (enterS fn coA laSt)
def l6 (fn : Func) : List Oper := opsOf (Sy.sub laP (bodyOf fn))
def l6o (fn : Func) (k : Nat) : Oper := (l6 fn).getD k default
def laA (P : Program) (fn : Func) : Sy.St := (pureL P ((l6 fn).take 2) (lfAt (la0 P fn) 0)).getD laSt
def laB0 (P : Program) (fn : Func) : Sy.St := ((laA P fn).growT (laA P fn).nx 29 none pxLv (.cv 20)).put (l6o fn 2).dst (spOut (.c (.slt (laA P fn).nx 2 (.il 0) (.iv 20) (.il 0))))
def laB (P : Program) (fn : Func) : Sy.St := { laB0 P fn with cx := ⟨spBs ++ coBs, [.le (.iv 20) (tlen (.cv 20)), .le (tlen (.cv 20)) (.iv 20)]⟩ }
def laC (P : Program) (fn : Func) : Sy.St := (pureL P ((l6 fn).drop 3) (laB P fn)).getD laSt
set_option maxRecDepth 100000 in
theorem la_run0 : shR 0 none (la0 Tryd.prog Tryd.f3) = some [.out 0 .normal []] := by kernel_rfl
set_option maxRecDepth 100000 in
theorem la_rg : Sy.sub laP (bodyOf Tryd.f3) = .region (rgId (Sy.sub laP (bodyOf Tryd.f3))) ((l6 Tryd.f3).take 2 ++ (l6o Tryd.f3 2 :: ((l6 Tryd.f3).drop 3 ++ []))).toArray false := by kernel_rfl
set_option maxRecDepth 100000 in
theorem la_A : pureL Tryd.prog ((l6 Tryd.f3).take 2) (lfAt (la0 Tryd.prog Tryd.f3) 0) = some (laA Tryd.prog Tryd.f3) := by kernel_rfl
set_option maxRecDepth 100000 in
theorem la_call : callAt (laA Tryd.prog Tryd.f3) (l6o Tryd.f3 2) = some (4, coA) := by kernel_rfl
set_option maxRecDepth 100000 in
theorem la_free : (Nat.ble 0 (laA Tryd.prog Tryd.f3).nx && ((laA Tryd.prog Tryd.f3).free (laA Tryd.prog Tryd.f3).nx && (laA Tryd.prog Tryd.f3).free ((laA Tryd.prog Tryd.f3).nx + 1))) = true := by kernel_rfl
set_option maxRecDepth 100000 in
theorem la_C : pureL Tryd.prog ((l6 Tryd.f3).drop 3) (laB Tryd.prog Tryd.f3) = some (laC Tryd.prog Tryd.f3) := by kernel_rfl
set_option maxRecDepth 100000 in
theorem la_run : smR Tryd.prog Tryd.f3 0 (run Tryd.prog laSp 10 400 0 (.code (aft .normal laP (bodyOf Tryd.f3))) (laC Tryd.prog Tryd.f3)) = some [.ret (.one (.c (.bool (.bl true)))) [] [.le (.iv 20) (tlen (.cv 20)), .le (tlen (.cv 20)) (.iv 20)]] := by kernel_rfl
set_option maxRecDepth 100000 in
theorem eqPx : EqRuns Tryd.prog 6 Tryd.f6 29 pxLv where
  row := fun ρ => rfl
  hf := Tryd.func6
  body := by kernel_rfl
  run0 := by kernel_rfl
  ret0 := by kernel_rfl
  match_ := by kernel_rfl
  loop := by kernel_rfl
  run1 := by kernel_rfl
  cx1 := by kernel_rfl
  ret1 := by kernel_rfl
  fin := by kernel_rfl
theorem coRows_len (f t : Nat) : (coRows f t).length ≤ 4294967296 := by
  unfold coRows
  split
  · exact Nat.zero_le _
  · rw [pxRows_len]
    exact halve_len 32 0 f t
set_option maxRecDepth 100000 in
set_option maxHeartbeats 1000000 in
theorem walk_addrCovers (f t : Nat) (w0 : World) (hf : f ≤ 4294967295) (ht : t ≤ 4294967295) (hT : TabAt 0 Lib.deBruijn64tab w0) :
    Calls Tryd.prog 3 #[.int .u32 (f : Int), .int .u32 (t : Int)] w0 fun e w' => e = .returned (.bool true) ∧ Below w0.heap.size w0 w' := by
  let ρ0 : Env := { mkEnv0 [] [] [] [] with
    i := fun n => if n = 2 then (f : Int) else if n = 3 then (t : Int) else if n = 20 then ((coRows f t).length : Int) else if n = 21 then coE f t else 0
    c := fun _ => coRows f t }
  have hlen := coRows_len f t
  have hbs : Bds ρ0 coBs := by
    intro z hz
    change z ∈ [_, _] at hz
    simp only [List.mem_cons, List.not_mem_nil, or_false] at hz
    rcases hz with rfl | rfl
    · show (0 : Int) ≤ (f : Int) ∧ (f : Int) ≤ 4294967295
      omega
    · show (0 : Int) ≤ (t : Int) ∧ (t : Int) ≤ 4294967295
      omega
  have hsb : Bds ρ0 spBs := by
    intro z hz
    change z ∈ [_, _] at hz
    simp only [List.mem_cons, List.not_mem_nil, or_false] at hz
    rcases hz with rfl | rfl
    · show (0 : Int) ≤ ((coRows f t).length : Int) ∧ ((coRows f t).length : Int) ≤ 4294967296
      omega
    · show (0 : Int) ≤ (((coRows f t).length : Nat) : Int) ∧ (((coRows f t).length : Nat) : Int) ≤ 4294967296
      omega
  refine (calls_pre (B := ⟨ρ0, fun _ => False, w0, fun _ => 0, 0⟩) (sp := []) (p := laP) (xs := coA) (s := laSt) (r := la0 Tryd.prog Tryd.f3) (fun i => rfl) (fun q hq => by cases hq) rfl Tryd.func3 rfl rfl la_run0 (Md.start ⟨hbs, fun t ht => by cases ht⟩) (R := fun v w' => v = .bool true ∧ Below w0.heap.size w0 w') ⟨?_, trivial⟩ rfl).mono ?_
  · intro _ β ac w1 hM1
    have hTw := tab_later hT (Sy.Only.below_all hM1.only)
    show (Sy.sub laP (bodyOf Tryd.f3)).wp Tryd.prog (ctx Tryd.prog laP (bodyOf Tryd.f3) _) ac w1
    rw [la_rg]
    refine wp_region_lit ?_
    refine pureL_ok (fun i => rfl) la_A hM1 fun a2 M2 => ?_
    refine callTab_ok (ty := 29) (lv := pxLv) (out := spOut) (outV := fun x => .tuple #[x, .int .i64 (coE f t)]) (j := 20) la_call M2 Tryd.func4 rfl (by kernel_rfl) la_free (fun β x => rfl) rfl ?_ fun β3 a3 w3 M3 => ?_
    · refine (pco_runs hf ht hTw).mono ?_
      rintro e w' ⟨v, rfl, x, rfl, hN⟩
      exact ⟨x, rfl, hN⟩
    have M3' : Md ρ0 (fun _ => False) w0 (fun _ => 0) 0 (laB Tryd.prog Tryd.f3) β3 a3 w3 := ⟨M3.act, M3.hp, M3.ne, M3.may, ⟨fun z hz => (List.mem_append.1 hz).elim (hsb z) (hbs z), fun x hx => by
      change x ∈ [_, _] at hx
      simp only [List.mem_cons, List.not_mem_nil, or_false] at hx
      rcases hx with rfl | rfl
      · rw [t_le]; exact Int.le_refl _
      · rw [t_le]; exact Int.le_refl _⟩, M3.only, M3.old⟩
    refine pureL_ok (fun i => rfl) la_C M3' fun a4 M4 => ?_
    refine wpList_nil ?_
    refine aft_fin (B := ⟨ρ0, fun _ => False, w0, fun _ => 0, 0⟩) (sp := laSp) (fun i => rfl) (fun q hq => ?_) rfl .normal la_run ⟨?_, trivial⟩ M4
    · change q ∈ [_, _] at hq
      simp only [List.mem_cons, List.not_mem_nil, or_false] at hq
      rcases hq with rfl | rfl
      · refine ntSp_ok (outV := fun x => .tuple #[x, .int .i64 (coE f t)]) hsb rfl (fun β x => rfl) ?_
        intro S w0' β0 n0 s xs β a w hok hM
        have hxs := sameT_eq hok
        subst hxs
        refine (rco_runs hf ht).mono ?_
        rintro e w' ⟨v, rfl, x, rfl, hN⟩
        exact ⟨x, rfl, hN⟩
      · exact eqSp_ok eqPx
    · intro _ β5 w5 hH
      exact ⟨rfl, Sy.Only.below_all hH.only⟩
  · rintro e w' ⟨v, rfl, rfl, hb⟩
    exact ⟨rfl, hb⟩
end Go.Proofs.YtagdnjhkoajbnaaDoor
