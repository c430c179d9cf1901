/- Routes: the reference's at. -/
import Derived.Test.YtnjpoidpfcfbeaaRoutE
namespace Go.Proofs.Ytnjpoidpfcfbeaa
open Go.RowKit Sy
set_option linter.unusedVariables false
set_option linter.unusedSimpArgs false

def raBs : List Bd := [⟨tlen (.cv 0), 0, 4000⟩, u32B 20, i64B 21]
def roTb : Bk := ⟨40, 171, [], false, none, .tab rLv (.cv 0)⟩
def roSl : C := .slt 40 3 (.il 0) (tlen (.cv 0)) (.il 0)
def roO (rw : Bool) : Bk := ⟨0, 93, [roSl], rw, none, .no⟩
def raSt : Sy.St := ⟨[], [roO false, roTb], ⟨raBs, []⟩, 50⟩
def raL : List Sh := [(.out 0 .ret [(.and (.eq (.tb (.get (.int .u32) 0) (.cv 0) (.iv 0) (.il 0)) (.iv 20)) (.eq (.tb (.get (.int .i64) 1) (.cv 0) (.iv 0) (.il 0)) (.iv 21))), (.lt (.iv 0) (.tb .len (.cv 0) (.il 0) (.il 0))), (.le (.iv 0) (.tb .len (.cv 0) (.il 0) (.il 0)))]), (.back [(.i 0 (.add (.iv 0) (.il 1)))] [(.not (.and (.eq (.tb (.get (.int .u32) 0) (.cv 0) (.iv 0) (.il 0)) (.iv 20)) (.eq (.tb (.get (.int .i64) 1) (.cv 0) (.iv 0) (.il 0)) (.iv 21)))), (.lt (.iv 0) (.tb .len (.cv 0) (.il 0) (.il 0))), (.le (.iv 0) (.tb .len (.cv 0) (.il 0) (.il 0)))]), (.out 2 (.exit 0) [(.not (.lt (.iv 0) (.tb .len (.cv 0) (.il 0) (.il 0)))), (.le (.iv 0) (.tb .len (.cv 0) (.il 0) (.il 0)))])]
set_option maxRecDepth 100000 in
theorem ra_code : ScanCode Try.prog [] 90 Try.f90 pA raSt scP 12 raL (.one (.c (.int .i64 (.iv 0)))) (.one (.c (.int .i64 (.il (-1))))) [0] 2 where
  hf := Try.func90
  body := rfl
  tm := rfl
  run0 := by kernel_rfl
  mtch := by kernel_rfl
  loop := by kernel_rfl
  run1 := by kernel_rfl
  rets := by kernel_rfl
  fin := by kernel_rfl
section
variable {rows : Rws} {a n : Int}
def raE (rows : Rws) (a n : Int) : Env := lsEnv (fun _ _ _ _ => dI 0) rows a n 0
theorem ra_bs (hn : rows.length ≤ 4000) (a0 : 0 ≤ a) (a1 : a ≤ 4294967295) (n0 : -9223372036854775808 ≤ n) (n1 : n ≤ 9223372036854775807) {ρ : Env} (h : But0 (raE rows a n) ρ) : Bds ρ raBs := by
  refine bdsP_ok ⟨?_, ?_, ?_, trivial⟩
  · show (0 : Int) ≤ (((ρ.c 0).length : Nat) : Int) ∧ (((ρ.c 0).length : Nat) : Int) ≤ 4000
    rw [h.c]
    show (0 : Int) ≤ ((rows.length : Nat) : Int) ∧ ((rows.length : Nat) : Int) ≤ 4000
    omega
  · show _ ≤ ρ.i 20 ∧ ρ.i 20 ≤ _
    rw [h.i 20 (by decide)]
    exact ⟨a0, a1⟩
  · show _ ≤ ρ.i 21 ∧ ρ.i 21 ≤ _
    rw [h.i 21 (by decide)]
    exact ⟨n0, n1⟩
theorem ra_goals : AllL (scGoal (raE rows a n) rows.length (fun j => isP a n (rows.getD j [])) [0] 2) raL := by
  refine ⟨?_, ?_, ?_, trivial⟩
  all_goals
    refine ⟨rfl, fun ρ hB h0 hpc => ?_⟩
    replace hpc : pcs ρ _ := hpc
    have hc : ρ.c 0 = rows := by rw [hB.c]; rfl
    have h20 : ρ.i 20 = a := hB.i 20 (by decide)
    have h21 : ρ.i 21 = n := hB.i 21 (by decide)
    simp only [pcs, t_lt, t_le, t_eq, t_not, t_and, t_or, t_bv, i_iv, i_il, i_tl, i_get, b_get, c_cv, hc, gI_def, gB_def, h20, h21, and_true] at hpc
    first
      | (show ¬ _; omega)
      | (refine ⟨by omega, fun _ => ?_⟩
         change isP a n (rows.getD (ρ.i 0).toNat []) = _
         generalize rows.getD (ρ.i 0).toNat [] = r at hpc ⊢
         unfold isP rAd rBi
         simp only [decide_eq_true_eq, decide_eq_false_iff_not]
         (try simp_all))
theorem ra_calls {w : World} {g0 g c : Nat} (h : Hold 93 171 rLv w g0 g c rows) (hn : rows.length ≤ 4000) (a0 : 0 ≤ a) (a1 : a ≤ 4294967295) (n0 : -9223372036854775808 ≤ n) (n1 : n ≤ 9223372036854775807) :
    Calls Try.prog 90 #[ptv g0, pfV a n] w (RetP fun v w' => v = .int .i64 (ixOf (isP a n) rows) ∧ Below w.heap.size w w') := by
  refine scan_calls ra_code (ρ0 := raE rows a n) (β0 := ixB g c g0) (n := rows.length) (fun i => rfl) (fun _ _ q hq => by cases hq) (fun ρ h => ra_bs hn a0 a1 n0 n1 h) ?_ hn rfl ra_goals ?_ ?_ ?_
  · refine Sy.Md.init ⟨?_, h.tab, trivial⟩ ⟨⟨fun _ hr => apart.of rfl rfl (fun e => h.ne (hr.resolve_left (by simp [roTb, Bk.nilable, Xt.isTab])) e.symm), trivial⟩, trivial, trivial⟩ ⟨fun h => (by cases h), fun h => (by cases h), trivial⟩ ⟨ra_bs hn a0 a1 n0 n1 ⟨fun _ _ => rfl, rfl, rfl, rfl, rfl, rfl⟩, fun t ht => by cases ht⟩ rfl
    show Blk w g0 _ [sltZ g c 3 0 rows.length 0]
    rw [sltZ_zero]
    exact h.obj
  · rfl
  · intro ρ β w' hb hbl h0 hlt hno hyes
    refine ⟨?_, hbl⟩
    show Value.int .i64 (ρ.i 0) = _
    rw [ixOf_some hlt hno hyes]
    congr 1
    omega
  · intro ρ β w' hb hbl hno
    refine ⟨?_, hbl⟩
    show Value.int .i64 (-1) = _
    rw [ixOf_none hno]
end
/-! In letters. -/
theorem rIx_bd (p : List Value → Bool) : ∀ l : Rws, -1 ≤ ixOf p l ∧ ixOf p l < (l.length : Int) := fun l => by
  by_cases h : ∃ j, j < l.length ∧ p (l.getD j []) = true
  · obtain ⟨j, ⟨h1, h2⟩, h3⟩ := least h
    rw [ixOf_some h1 (fun i hi => by
      cases q : p (l.getD i []) with
      | false => rfl
      | true => have := h3 i ⟨by omega, q⟩; omega) h2]
    omega
  · rw [ixOf_none fun j hj => by
      cases q : p (l.getD j []) with
      | false => rfl
      | true => exact absurd ⟨j, hj, q⟩ h]
    omega
def raSel (s : Sy.St) : List SV → Option Did
  | [.one (.c (.ptr l 0)), .one (.agg [.int .u32 x, .int .i64 y])] => match hoF 93 171 rLv s l with
    | some (rw, ms, lt, t) => some ⟨ms ++ (inU s.cx x ++ (inI s.cx y ++ need s.cx (.le (mkTL s.cx t) (.il 64)))), [], [], [], .one (.c (.int .i64 (.ap 7 t x y))), [⟨.ap 7 t x y, -1, 63⟩], none⟩
    | none => none
  | _ => none
def raSp : Sy.Spec := chgSp 90 raSel
theorem raSp_ok {ρ : Env} (hf : ρ.f = rtF) : raSp.Ok Try.prog ρ := by
  refine chgSp_ok fun {s xs d} hs hc hm {β w} hb hne => ?_
  unfold raSel at hs
  split at hs
  · rename_i l x y
    split at hs
    · rename_i rw ms lt t hfh
      injection hs with hs
      subst hs
      obtain ⟨hH, _⟩ := hoF_ok hfh hc hm.l hb hne
      obtain ⟨a0, a1⟩ := inU_ok hc hm.r.l
      obtain ⟨n0, n1⟩ := inI_ok hc hm.r.r.l
      have m3 := le_of (need_ok hc hm.r.r.r)
      rw [mkTL_ok hc] at m3
      change ((den ρ t).c.length : Int) ≤ 64 at m3
      have hap : (den ρ (.ap 7 t x y)).i = ixOf (isP (den ρ x).i (den ρ y).i) (den ρ t).c := by
        show (ρ.f 7 _ _ _).i = _
        rw [hf]
        rfl
      refine ⟨fun z hz => ?_, (ra_calls hH (by omega) a0 a1 n0 n1).mono ?_⟩
      · rw [List.mem_singleton.1 hz]
        show (-1 : Int) ≤ (den ρ (.ap 7 t x y)).i ∧ (den ρ (.ap 7 t x y)).i ≤ 63
        rw [hap]
        have := rIx_bd (isP (den ρ x).i (den ρ y).i) (den ρ t).c
        omega
      · rintro e w' ⟨v, rfl, rfl, hb'⟩
        refine ⟨β, ?_, Only.of_below hb' _, fun _ _ => rfl, fun _ h => (by cases h), fun _ h => (by cases h), fun _ h => (by cases h), fun _ h => (by cases h), fun _ h => (by cases h), fun _ h => (by cases h)⟩
        show _ = Ending.returned (.int .i64 (den ρ (.ap 7 t x y)).i)
        rw [hap]
    · cases hs
  · cases hs
end Go.Proofs.Ytnjpoidpfcfbeaa
/- Routes: the reference's calls, run in parts. -/
namespace Go.Proofs.Ytnjpoidpfcfbeaa
open Go.RowKit Sy
set_option linter.unusedVariables false
set_option linter.unusedSimpArgs false

def lnB : Bd := ⟨tlen (.cv 0), 0, 64⟩
/-! All. -/
def rlP : List Nat := [1, 1, 0, 1, 2]
def rlA : List SV := [.one (.c (.ptr 0 0))]
def rlSt : Sy.St := { raSt with cx := ⟨[lnB], []⟩ }
def rl0 (P : Program) (fn : Func) : Rs := run P [] 10 400 4 (.code (pre rlP (bodyOf fn))) (enterS fn rlA rlSt)
def rlS (P : Program) (fn : Func) : Sy.St := tabSlot (lfAt (rl0 P fn) 0) 3 60 29 xLv
def rlL (fn : Func) : Code := lpBody (Sy.sub rlP (bodyOf fn))
def rlCx : Cx := ⟨[⟨.iv 0, 0, 64⟩, ⟨.iv 1, 0, 64⟩, ⟨tlen (.cv 1), 0, 64⟩, lnB], [.le (.iv 0) (tlen (.cv 0)), .le (.iv 1) (tlen (.cv 1)), .le (tlen (.cv 1)) (.iv 1)]⟩
def rlT (P : Program) (fn : Func) : Sy.St := tplS (rlS P fn) (rlL fn) [(11, .one (.c (.int .i64 (.iv 0)))), (3, .one (.c (.slt 60 2 (.il 0) (.iv 1) (.il 0))))] [waTb 60 (.cv 1)] rlCx 70
def rl1 (P : Program) (fn : Func) : Rs := run P [] 10 400 4 (.code (rlL fn)) (rlT P fn)
/-! Find. -/
def rfP : List Nat := [1, 1, 1, 0, 1, 2]
def rfSt : Sy.St := { raSt with cx := ⟨[lnB, u32B 20], []⟩ }
def rf0 (P : Program) (fn : Func) : Rs := run P [] 10 400 4 (.code (pre rfP (bodyOf fn))) (enterS fn ffA rfSt)
def rfL (fn : Func) : Code := lpBody (Sy.sub rfP (bodyOf fn))
def rfCx : Cx := ⟨[⟨.iv 0, 0, 64⟩, lnB, u32B 20, i64B 23, u32B 24, i64B 25], [.le (.iv 0) (tlen (.cv 0))]⟩
def rfBx : Bk := ⟨52, 171, [.int .u32 (.iv 24), .int .i64 (.iv 25), .int .i64 (.iv 23)], true, none, .no⟩
def rfT (P : Program) (fn : Func) : Sy.St := tplS (lfAt (rf0 P fn) 0) (rfL fn) [(16, .one (.c (.int .i64 (.iv 0)))), (8, .one (.c (.bool (.bv 23))))] [rfBx] rfCx 70
def rf1 (P : Program) (fn : Func) : Rs := run P [hsSp] 10 400 4 (.code (rfL fn)) (rfT P fn)
/-! Drop, Add. -/
def roO' : Bk := ⟨0, 93, [roSl], true, none, .no⟩
def roTb' : Bk := ⟨40, 171, [], true, none, .tab rLv (.cv 0)⟩
def rdSt : Sy.St := ⟨[], [roO', roTb'], ⟨[lnB, u32B 20, i64B 21, i64B 24], []⟩, 50⟩
def rd0 (P : Program) (fn : Func) : Rs := run P [rcSp, raSp] 10 400 4 (.code (bodyOf fn)) (enterS fn pA rdSt)
def riP : List Nat := [1, 1, 1, 1, 1, 0, 2]
def ri0 (P : Program) (fn : Func) : Rs := run P [rcSp, raSp] 10 400 4 (.code (pre riP (bodyOf fn))) (enterS fn adA rdSt)
def riCx : Cx := ⟨[⟨.iv 0, 0, 63⟩, ⟨tlen (.cv 0), 0, 63⟩, u32B 20, ⟨.iv 21, 0, 32⟩, i64B 24], [.le (.iv 0) (tlen (.cv 0))]⟩
def riT (P : Program) (fn : Func) : Sy.St := tplK (lfAt (ri0 P fn) 3) [0, 1, 2, 4] [(8, .one (.c (.int .i64 (.iv 0))))] [] riCx 60
def riL (fn : Func) : Code := lpBody (Sy.sub riP (bodyOf fn))
def ri1 (P : Program) (fn : Func) : Rs := run P [] 10 400 4 (.code (riL fn)) (riT P fn)
def riX (P : Program) (fn : Func) : Sy.St := { riT P fn with cx := riCx }
def ri2 (P : Program) (fn : Func) : Rs := run P [] 10 400 4 (.code (aft (.exit 0) riP (bodyOf fn))) (riX P fn)
def gR (k : Nat) : Tm := .tb (.get (.int (if k = 0 then .u32 else .i64)) k) (.cv 0) (.iv 0) (.il 0)
def rlNew : Tm := .tb .app (.cv 1) (.tb (.cons (.int .u32)) (gR 0) (.tb (.cons (.int .i64)) (gR 1) (.tb .row (.il 0) (.il 0) (.il 0)) (.il 0)) (.il 0)) (.il 0)
set_option maxRecDepth 100000 in
theorem rl_run0 : shR 4 none (rl0 Try.prog Try.f58) = some [.out 0 .normal []] := by kernel_rfl
set_option maxRecDepth 100000 in
theorem rl_fr : ((lfAt (rl0 Try.prog Try.f58) 0).free 60 && (lfAt (rl0 Try.prog Try.f58) 0).free 61) = true := by kernel_rfl
set_option maxRecDepth 100000 in
theorem rl_in : (matchS 4 (rlT Try.prog Try.f58) (rlS Try.prog Try.f58)).map noU = some [.i 1 (.il 0), .i 0 (.il 0), .c 1 tn] := by kernel_rfl
set_option maxRecDepth 100000 in
theorem rl_loop : Sy.sub rlP (bodyOf Try.f58) = .loop (rlL Try.f58) := by kernel_rfl
set_option maxRecDepth 100000 in
theorem rl_cx : (rlT Try.prog Try.f58).cx = rlCx := by kernel_rfl
set_option maxRecDepth 100000 in
theorem rl_run1 : shR 4 (some (rlT Try.prog Try.f58)) (rl1 Try.prog Try.f58) = some [.back [.i 1 (.add (tlen (.cv 1)) (.il 1)), .i 0 (.add (.iv 0) (.il 1)), .c 1 rlNew] ((.lt (.iv 0) (.tb .len (.cv 0) (.il 0) (.il 0))) :: rlCx.pc), .out 1 (.exit 0) (.not (.lt (.iv 0) (.tb .len (.cv 0) (.il 0) (.il 0))) :: rlCx.pc)] := by kernel_rfl
def rlEnd : List Bk := [roO false, waTb 60 (.cv 1), roTb]
set_option maxRecDepth 100000 in
theorem rl_end : smR Try.prog Try.f58 4 (run Try.prog [] 10 400 4 (.code (aft (.exit 0) rlP (bodyOf Try.f58))) (lfAt (rl1 Try.prog Try.f58) 1)) = some [.ret (.one (.c (.slt 60 2 (.il 0) (.iv 1) (.il 0)))) rlEnd (.not (.lt (.iv 0) (.tb .len (.cv 0) (.il 0) (.il 0))) :: rlCx.pc)] := by kernel_rfl
/-! Find. -/
def rfAs : List As := [.b 23 (.bl true), .i 0 (.add (.iv 0) (.il 1)), .i 24 (gR 0), .i 25 (gR 1), .i 23 (gR 2)]
def rfH : Tm := .ap 31 (gR 0) (gR 1) (.iv 20)
set_option maxRecDepth 100000 in
theorem rf_run0 : shR 4 none (rf0 Try.prog Try.f60) = some [.out 0 .normal []] := by kernel_rfl
set_option maxRecDepth 100000 in
theorem rf_in : (matchS 4 (rfT Try.prog Try.f60) (lfAt (rf0 Try.prog Try.f60) 0)).map noU = some [.b 23 (.bl false), .i 0 (.il 0), .i 24 (.il 0), .i 25 (.il 0), .i 23 (.il 0)] := by kernel_rfl
set_option maxRecDepth 100000 in
theorem rf_loop : Sy.sub rfP (bodyOf Try.f60) = .loop (rfL Try.f60) := by kernel_rfl
set_option maxRecDepth 100000 in
theorem rf_cx : (rfT Try.prog Try.f60).cx = rfCx := by kernel_rfl
def rfLs : List Sh := [.back rfAs ([.lt (.iv 25) (gR 1), .bv 23, rfH, (.lt (.iv 0) (.tb .len (.cv 0) (.il 0) (.il 0)))] ++ rfCx.pc), .back [.i 0 (.add (.iv 0) (.il 1))] ([.not (.lt (.iv 25) (gR 1)), .bv 23, rfH, (.lt (.iv 0) (.tb .len (.cv 0) (.il 0) (.il 0)))] ++ rfCx.pc), .back rfAs ([.not (.bv 23), rfH, (.lt (.iv 0) (.tb .len (.cv 0) (.il 0) (.il 0)))] ++ rfCx.pc), .back [.i 0 (.add (.iv 0) (.il 1))] ([.not rfH, (.lt (.iv 0) (.tb .len (.cv 0) (.il 0) (.il 0)))] ++ rfCx.pc), .out 4 (.exit 0) (.not (.lt (.iv 0) (.tb .len (.cv 0) (.il 0) (.il 0))) :: rfCx.pc)]
set_option maxRecDepth 100000 in
theorem rf_run1 : shR 4 (some (rfT Try.prog Try.f60)) (rf1 Try.prog Try.f60) = some rfLs := by kernel_rfl
def rfVs (v : SV) : List Sm → Bool
  | [.ret _ _ _] => true
  | _ => false
set_option maxRecDepth 100000 in
theorem rf_end : retsB Try.prog Try.f60 (run Try.prog [] 10 400 4 (.code (aft (.exit 0) rfP (bodyOf Try.f60))) (lfAt (rf1 Try.prog Try.f60) 4)) (.tup [.c (.int .i64 (.iv 23)), .agg [.int .u32 (.iv 24), .int .i64 (.iv 25)], .c (.bool (.bv 23))]) [0] = true := by kernel_rfl
set_option maxRecDepth 100000 in
theorem rf_end' : shR 4 none (run Try.prog [] 10 400 4 (.code (aft (.exit 0) rfP (bodyOf Try.f60))) (lfAt (rf1 Try.prog Try.f60) 4)) = some [.out 0 .ret (.not (.lt (.iv 0) (.tb .len (.cv 0) (.il 0) (.il 0))) :: rfCx.pc)] := by kernel_rfl
/-! Drop. -/
def roN (l : Nat) (t : Tm) : Bk := ⟨l, 171, [], true, none, .tab rLv t⟩
def roH (l : Nat) (n : Tm) : Bk := ⟨0, 93, [.slt l 3 (.il 0) n (.il 0)], true, none, .no⟩
def rdIx1 : Tm := .add (.ap 7 (.cv 0) (.iv 20) (.iv 21)) (.il 1)
def rdHi : Tm := .add (.add (.ap 7 (.cv 0) (.iv 20) (.iv 21)) (.sub (.tb .len (.cv 0) (.il 0) (.il 0)) rdIx1)) (.il 1)
def rdC2 : Tm := .tb .cut (.cv 0) rdIx1 rdHi
def rdT : Tm := .tb .app (.tb .cut (.cv 0) (.il 0) (.ap 7 (.cv 0) (.iv 20) (.iv 21))) rdC2 (.il 0)
def rdM : Tm := .le (.mul (.add (.ap 7 (.cv 0) (.iv 20) (.iv 21)) (tlen rdC2)) (.il 24)) (.il 140737488355328)
set_option maxRecDepth 100000 in
theorem rd_run : smR Try.prog Try.f55 4 (rd0 Try.prog Try.f55) = some [.ret (.one (.c (.int .i64 (.ap 20 (.iv 20) (.iv 21) (.il 0))))) [roO', roTb'] [.not (.eq (.ap 20 (.iv 20) (.iv 21) (.il 0)) (.il 0))], .ret (.one (.c (.int .i64 (.il 7)))) [roO', roTb'] [.lt (.ap 7 (.cv 0) (.iv 20) (.iv 21)) (.il 0), (.eq (.ap 20 (.iv 20) (.iv 21) (.il 0)) (.il 0))], .must (.le (.ap 7 (.cv 0) (.iv 20) (.iv 21)) (.tb .len (.cv 0) (.il 0) (.il 0))) [(.not (.lt (.ap 7 (.cv 0) (.iv 20) (.iv 21)) (.il 0))), (.eq (.ap 20 (.iv 20) (.iv 21) (.il 0)) (.il 0))], .must (.le rdIx1 (.tb .len (.cv 0) (.il 0) (.il 0))) [(.le (.ap 7 (.cv 0) (.iv 20) (.iv 21)) (.tb .len (.cv 0) (.il 0) (.il 0))), (.not (.lt (.ap 7 (.cv 0) (.iv 20) (.iv 21)) (.il 0))), (.eq (.ap 20 (.iv 20) (.iv 21) (.il 0)) (.il 0))], .must (.le rdIx1 (.tb .len (.cv 0) (.il 0) (.il 0))) [(.le (.ap 7 (.cv 0) (.iv 20) (.iv 21)) (.tb .len (.cv 0) (.il 0) (.il 0))), (.not (.lt (.ap 7 (.cv 0) (.iv 20) (.iv 21)) (.il 0))), (.eq (.ap 20 (.iv 20) (.iv 21) (.il 0)) (.il 0))], .must (.le rdIx1 (.tb .len (.cv 0) (.il 0) (.il 0))) [(.not (.lt (.ap 7 (.cv 0) (.iv 20) (.iv 21)) (.il 0))), (.eq (.ap 20 (.iv 20) (.iv 21) (.il 0)) (.il 0))], .must (.le (.ap 7 (.cv 0) (.iv 20) (.iv 21)) (.tb .len (.cv 0) (.il 0) (.il 0))) [(.le rdIx1 (.tb .len (.cv 0) (.il 0) (.il 0))), (.not (.lt (.ap 7 (.cv 0) (.iv 20) (.iv 21)) (.il 0))), (.eq (.ap 20 (.iv 20) (.iv 21) (.il 0)) (.il 0))], .must (.le rdHi (.tb .len (.cv 0) (.il 0) (.il 0))) [(.le (.ap 7 (.cv 0) (.iv 20) (.iv 21)) (.tb .len (.cv 0) (.il 0) (.il 0))), (.le rdIx1 (.tb .len (.cv 0) (.il 0) (.il 0))), (.not (.lt (.ap 7 (.cv 0) (.iv 20) (.iv 21)) (.il 0))), (.eq (.ap 20 (.iv 20) (.iv 21) (.il 0)) (.il 0))], .must rdM [(.le rdHi (.tb .len (.cv 0) (.il 0) (.il 0))), (.le (.ap 7 (.cv 0) (.iv 20) (.iv 21)) (.tb .len (.cv 0) (.il 0) (.il 0))), (.le rdIx1 (.tb .len (.cv 0) (.il 0) (.il 0))), (.not (.lt (.ap 7 (.cv 0) (.iv 20) (.iv 21)) (.il 0))), (.eq (.ap 20 (.iv 20) (.iv 21) (.il 0)) (.il 0))],
  .ret (.one (.c (.int .i64 (.il 0)))) [roN 82 rdT, roH 82 (.add (.ap 7 (.cv 0) (.iv 20) (.iv 21)) (tlen rdC2))] [rdM, (.le rdHi (.tb .len (.cv 0) (.il 0) (.il 0))), (.le (.ap 7 (.cv 0) (.iv 20) (.iv 21)) (.tb .len (.cv 0) (.il 0) (.il 0))), (.le rdIx1 (.tb .len (.cv 0) (.il 0) (.il 0))), (.not (.lt (.ap 7 (.cv 0) (.iv 20) (.iv 21)) (.il 0))), (.eq (.ap 20 (.iv 20) (.iv 21) (.il 0)) (.il 0))]] := by kernel_rfl
/-! Add. -/
set_option maxRecDepth 100000 in
theorem ri_run0 : shR 4 none (ri0 Try.prog Try.f53) = some [.out 0 .ret [.not (.eq (.ap 20 (.iv 20) (.iv 21) (.il 0)) (.il 0))], .out 1 .ret [.le (.il 0) (.ap 7 (.cv 0) (.iv 20) (.iv 21)), (.eq (.ap 20 (.iv 20) (.iv 21) (.il 0)) (.il 0))], .out 2 .ret [.lt (.il 63) (.tb .len (.cv 0) (.il 0) (.il 0)), .not (.le (.il 0) (.ap 7 (.cv 0) (.iv 20) (.iv 21))), (.eq (.ap 20 (.iv 20) (.iv 21) (.il 0)) (.il 0))], .out 3 .normal [.not (.lt (.il 63) (.tb .len (.cv 0) (.il 0) (.il 0))), .not (.le (.il 0) (.ap 7 (.cv 0) (.iv 20) (.iv 21))), (.eq (.ap 20 (.iv 20) (.iv 21) (.il 0)) (.il 0))]] := by kernel_rfl
set_option maxRecDepth 100000 in
theorem ri_ret0 : (retsB Try.prog Try.f53 (ri0 Try.prog Try.f53) (.one (.c (.int .i64 (.ap 20 (.iv 20) (.iv 21) (.il 0))))) [0] && (retsB Try.prog Try.f53 (ri0 Try.prog Try.f53) (.one (.c (.int .i64 (.il 8)))) [1] && retsB Try.prog Try.f53 (ri0 Try.prog Try.f53) (.one (.c (.int .i64 (.il 9)))) [2])) = true := by kernel_rfl
def boxB : Bk := ⟨50, 29, [.int .u32 (.iv 20), .int .i64 (.iv 21)], true, none, .no⟩
def riHp : List Bk := [boxB, roO', roTb']
set_option maxRecDepth 100000 in
theorem ri_hp0 : (lfAt (ri0 Try.prog Try.f53) 0).hp = riHp ∧ (lfAt (ri0 Try.prog Try.f53) 1).hp = riHp ∧ (lfAt (ri0 Try.prog Try.f53) 2).hp = riHp := by
  refine ⟨?_, ?_, ?_⟩ <;> kernel_rfl
set_option maxRecDepth 100000 in
theorem ri_in : (matchS 4 (riT Try.prog Try.f53) (lfAt (ri0 Try.prog Try.f53) 3)).map noU = some [.i 0 (.il 0)] := by kernel_rfl
set_option maxRecDepth 100000 in
theorem ri_loop : Sy.sub riP (bodyOf Try.f53) = .loop (riL Try.f53) := by kernel_rfl
set_option maxRecDepth 100000 in
theorem ri_cx : (riT Try.prog Try.f53).cx = riCx := by kernel_rfl
def riLs : List Sh := [.back [.i 0 (.add (.iv 0) (.il 1))] ([(.lt (gR 1) (.iv 21)), (.eq (gR 0) (.iv 20)), .not (.lt (gR 0) (.iv 20)), (.lt (.iv 0) (.tb .len (.cv 0) (.il 0) (.il 0)))] ++ riCx.pc), .out 1 (.exit 0) ([.not (.lt (gR 1) (.iv 21)), (.eq (gR 0) (.iv 20)), .not (.lt (gR 0) (.iv 20)), (.lt (.iv 0) (.tb .len (.cv 0) (.il 0) (.il 0)))] ++ riCx.pc), .out 2 (.exit 0) ([.not (.eq (gR 0) (.iv 20)), .not (.lt (gR 0) (.iv 20)), (.lt (.iv 0) (.tb .len (.cv 0) (.il 0) (.il 0)))] ++ riCx.pc), .back [.i 0 (.add (.iv 0) (.il 1))] ([(.lt (gR 0) (.iv 20)), (.lt (.iv 0) (.tb .len (.cv 0) (.il 0) (.il 0)))] ++ riCx.pc), .out 4 (.exit 0) (.not (.lt (.iv 0) (.tb .len (.cv 0) (.il 0) (.il 0))) :: riCx.pc)]
set_option maxRecDepth 100000 in
theorem ri_run1 : shR 4 (some (riT Try.prog Try.f53)) (ri1 Try.prog Try.f53) = some riLs := by kernel_rfl
set_option maxRecDepth 100000 in
theorem ri_x : (matchS 4 (riX Try.prog Try.f53) (lfAt (ri1 Try.prog Try.f53) 1)).map noU = some [] ∧ (matchS 4 (riX Try.prog Try.f53) (lfAt (ri1 Try.prog Try.f53) 2)).map noU = some [] ∧ (matchS 4 (riX Try.prog Try.f53) (lfAt (ri1 Try.prog Try.f53) 4)).map noU = some [] := by
  refine ⟨?_, ?_, ?_⟩ <;> kernel_rfl
def riCt : Tm := .tb .cut (.cv 0) (.iv 0) (.add (.iv 0) (.sub (.tb .len (.cv 0) (.il 0) (.il 0)) (.iv 0)))
def riR : Tm := .tb (.cons (.int .u32)) (.iv 20) (.tb (.cons (.int .i64)) (.iv 21) (.tb (.cons (.int .i64)) (.iv 24) (.tb .row (.il 0) (.il 0) (.il 0)) (.il 0)) (.il 0)) (.il 0)
def riT1 : Tm := .tb .app riR riCt (.il 0)
def riT2 : Tm := .tb .cut riT1 (.il 0) (.add (tlen riCt) (.il 1))
def riTn : Tm := .tb .app (.tb .cut (.cv 0) (.il 0) (.iv 0)) riT2 (.il 0)
def riM1 : Tm := .le (.il 0) (.sub (.tb .len (.cv 0) (.il 0) (.il 0)) (.iv 0))
def riM2 : Tm := .le (.add (.iv 0) (.sub (.tb .len (.cv 0) (.il 0) (.il 0)) (.iv 0))) (.tb .len (.cv 0) (.il 0) (.il 0))
def riM3 : Tm := .le (.mul (.add (tlen riCt) (.il 1)) (.il 24)) (.il 140737488355328)
def riM4 : Tm := .le (.il 0) (.add (tlen riCt) (.il 1))
def riM5 : Tm := .le (.add (tlen riCt) (.il 1)) (.add (.sub (.tb .len (.cv 0) (.il 0) (.il 0)) (.iv 0)) (.il 1))
def riM6 : Tm := .le (.mul (.add (.iv 0) (tlen riT2)) (.il 24)) (.il 140737488355328)
set_option maxRecDepth 100000 in
theorem ri_end : smR Try.prog Try.f53 4 (ri2 Try.prog Try.f53) = some [.must riM1 riCx.pc, .must riM2 (riM1 :: riCx.pc), .must riM3 (riM2 :: riM1 :: riCx.pc), .must riM4 (riM3 :: riM2 :: riM1 :: riCx.pc), .must riM5 (riM4 :: riM3 :: riM2 :: riM1 :: riCx.pc), .must riM6 (riM5 :: riM4 :: riM3 :: riM2 :: riM1 :: riCx.pc), .ret (.one (.c (.int .i64 (.il 0)))) [roN 98 riTn, roH 98 (.add (.iv 0) (tlen riT2))] (riM6 :: riM5 :: riM4 :: riM3 :: riM2 :: riM1 :: riCx.pc)] := by kernel_rfl
end Go.Proofs.Ytnjpoidpfcfbeaa
