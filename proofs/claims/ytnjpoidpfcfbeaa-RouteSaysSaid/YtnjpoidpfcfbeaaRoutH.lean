/- Laws over a list of numbers: the loop; what is left for each law is a round from the number on. -/
import Derived.Test.YtnjpoidpfcfbeaaSyZ
import Derived.Test.YtnjpoidpfcfbeaaRoutG
import Derived.Test.YtnjpoidpfcfbeaaSliceSz
namespace Go.Proofs.Ytnjpoidpfcfbeaa
namespace Sy
open Go Go.RowKit Go.BigFrame
set_option linter.unusedVariables false
set_option linter.unusedSimpArgs false

def numSt (s : St) (k : IntKind) (d1 d2 d3 : Tmp) : St := ((s.put (some d1) (.any 1025)).put (some d2) (.one (.c (.int k (.iv 100))))).put (some d3) (.one (.c (.int k (.iv 100))))
def numX (P : Program) (fn : Func) (p : List Nat) (T : St) (n0 : Nat) (k : IntKind) (d1 d2 d3 : Tmp) : St := numSt (lfAt (saysHd P fn p T n0) 0) k d1 d2 d3
/-- What the kernel shows. x0: the slot of the list; lo, ll, li: the letters of the list, of its length, of the place; vx, vl, vi: their slots; d1, d2, d3: of the number; id: the loop's block. -/
structure NumCode (P : Program) (fn : Func) (p : List Nat) (T : St) (n0 : Nat) (tS tE : TypeId) (k : IntKind) (id lo ll li : Nat) (x0 vx vl vi d1 d2 d3 : Tmp) : Prop where
  rg : ∃ o1 o2 o3 : Oper, Sy.sub (p ++ [0]) (bodyOf fn) = .region (rgId (Sy.sub (p ++ [0]) (bodyOf fn))) #[o1, o2, o3] false ∧ (o1.op = .move (.tmp x0) ∧ o1.dst = some vx ∧ o1.guard = none) ∧ (o2.op = .call ⟨.builtin .len, #[.tmp vx], #[tS]⟩ ∧ o2.dst = some vl ∧ o2.guard = none) ∧ (o3.op = .move (.const (.int .i64 0)) ∧ o3.dst = some vi ∧ o3.guard = none)
  at_ : Sy.sub p (bodyOf fn) = .seq (Sy.sub (p ++ [0]) (bodyOf fn)) (.block id (.loop (saysB fn p)))
  hd : shR n0 none (saysHd P fn p T n0) = some [.out 0 .normal (.lt (.iv li) (.iv ll) :: T.cx.pc), .out 1 (.exit id) (.not (.lt (.iv li) (.iv ll)) :: T.cx.pc)]
  row : ∃ o1 o2 o3 : Oper, Sy.sub rowP (saysB fn p) = .region (rgId (Sy.sub rowP (saysB fn p))) #[o1, o2, o3] false ∧ (o1.op = .indexAddr tS (.tmp vx) (.tmp vi) ∧ o1.dst = some d1 ∧ o1.guard = none) ∧ (o2.op = .load tE (.tmp d1) ∧ o2.dst = some d2 ∧ o2.guard = none) ∧ (o3.op = .assign (.tmp d2) ∧ o3.dst = some d3 ∧ o3.guard = none)
  lo1 : lowSt 100 (lfAt (saysHd P fn p T n0) 0) = true
  any1 : noAny 1025 (lfAt (saysHd P fn p T n0) 0).tm = true
  tx : (lfAt (saysHd P fn p T n0) 0).tm[vx]? = some (.one (.c (.opq lo)))
  ti : (lfAt (saysHd P fn p T n0) 0).tm[vi]? = some (.one (.c (.int .i64 (.iv li))))
  e1 : ((lfAt (saysHd P fn p T n0) 0).put (some d1) (.any 1025)).tm[d1]? = some (.any 1025)
  e2 : (((lfAt (saysHd P fn p T n0) 0).put (some d1) (.any 1025)).put (some d2) (.one (.c (.int k (.iv 100))))).tm[d2]? = some (.one (.c (.int k (.iv 100))))
  out : outB id rowP (saysB fn p) = true
  uS : P.underlying tS = some (.slice tE)
  uE : ∃ d, P.underlying tE = some d ∧ rowB d = false
  inf : (P.info? tE).map (·.size) = some 1
def numMu (li ll : Nat) (ρ : Env) : Nat := (ρ.i ll - ρ.i li).toNat
def numIn (s : St) (lo ll : Nat) (vx vl vi : Tmp) : St := ((s.put (some vx) (.one (.c (.opq lo)))).put (some vl) (.one (.c (.int .i64 (.iv ll))))).put (some vi) (.one (.c (.int .i64 (.il 0))))
section
variable {P : Program} {fn : Func} {p : List Nat} {T : St} {n0 : Nat} {tS tE : TypeId} {k : IntKind} {id lo ll li : Nat} {x0 vx vl vi d1 d2 d3 : Tmp}
theorem num_round (L : NumCode P fn p T n0 tS tE k id lo ll li x0 vx vl vi d1 d2 d3) {S : Nat → Prop} {w0 : World} {β0 : Bn} {vs : Value} {len : Nat} {C : Nat → List Value}
    (hS : ∀ g, g < w0.heap.size → ¬ S g)
    (hC : ∀ i, i < len → ∃ b off cap, vs = .slice (some ⟨b, off, none⟩) len cap ∧ leafAll [some (some k)] (C i) ∧ w0.rangeAt b (off + i * 1) (C i)) {Q : Exit → Act → World → Prop} {I : Env → Prop}
    (hI : ∀ ρ, I ρ → ρ.good ∧ ρ.v lo = vs ∧ 0 ≤ ρ.i li ∧ ρ.i li ≤ ρ.i ll ∧ ρ.i ll = (len : Int))
    (round : ∀ ρ, I ρ → ρ.i li < ρ.i ll → ∀ cs, leafAll [some (some k)] cs → ∀ u β a w, Md { ρ.hi 100 cs with u := u } S w0 β0 n0 (numX P fn p T n0 k d1 d2 d3) β a w → ctx P rowP (saysB fn p) (Exit.then (NextR S w0 β0 n0 T I (numMu li ll) (numMu li ll ρ)) Q) .normal a w)
    (fin : ∀ ρ, I ρ → ρ.i li = ρ.i ll → ∀ β a w, Md ρ S w0 β0 n0 (lfAt (saysHd P fn p T n0) 1) β a w → Q (.exit id) a w)
    {ρ : Env} (h : I ρ) {β : Bn} {a : Act} {w : World} (hM : Md ρ S w0 β0 n0 T β a w) : (saysB fn p).wp P (Exit.then (NextR S w0 β0 n0 T I (numMu li ll) (numMu li ll ρ)) Q) a w := by
  obtain ⟨hg, hv, hi0, hi1, hlen⟩ := hI ρ h
  refine part_pre (B := ⟨ρ, S, w0, β0, n0⟩) (sp := []) (p := rowP) (s := T) (r := saysHd P fn p T n0) hg (fun q hq => by cases hq) rfl rfl L.hd ⟨?_, ?_, trivial⟩ hM
  · intro hpc β a w1 hM1
    have hlt : ρ.i li < ρ.i ll := by
      have := hpc.1
      rw [t_lt, i_iv, i_iv] at this
      exact this
    obtain ⟨j, hk⟩ : ∃ j : Nat, ρ.i li = (j : Int) := ⟨(ρ.i li).toNat, by omega⟩
    have hkl : j < len := by omega
    obtain ⟨b, off, cap, hvl, hleaf, hr0⟩ := hC j hkl
    obtain ⟨y, hy, hw⟩ := leaf_int hleaf 0 rfl
    have hb : b < w0.heap.size := World.block_lt_of_cell? w0 _ (hr0 0 _ hy)
    have hr1 : w1.rangeAt b (off + j * 1) (C j) := hM1.only.range hr0 (hS b hb)
    have hcell : w1.cell? ⟨b, off + j * 1, none⟩ = some (.int k y) := hr1 0 _ hy
    have M2 := Sy.Md.hi hM1 100 (C j) L.lo1
    have M3 := Sy.Md.setU M2 1025 (.pointer (some ⟨b, off + j * 1, none⟩)) L.any1
    obtain ⟨ρ1, hρ1⟩ : ∃ ρ1 : Env, ({ ρ.hi 100 (C j) with u := fun n => if n = 1025 then .pointer (some ⟨b, off + j * 1, none⟩) else (ρ.hi 100 (C j)).u n } : Env) = ρ1 := ⟨_, rfl⟩
    have h100 : ρ1.i 100 = y := by
      rw [← hρ1]
      show intAt (C j) 0 = y
      unfold intAt
      rw [hy]
    have hv1 : ρ1.v lo = vs := by rw [← hρ1]; exact hv
    have hil : ρ1.i li = (j : Int) := by
      have := Sy.Md.opd M3 (x := .tmp vi) L.ti
      have h2 := Sy.Md.opd hM1 (x := .tmp vi) L.ti
      have h3 := this.symm.trans h2
      change Value.int .i64 (({ ρ.hi 100 (C j) with u := fun n => if n = 1025 then .pointer (some ⟨b, off + j * 1, none⟩) else (ρ.hi 100 (C j)).u n } : Env).i li) = Value.int .i64 (ρ.i li) at h3
      injection h3 with _ h3
      rw [← hρ1, h3, hk]
    have hu : ρ1.u 1025 = .pointer (some ⟨b, off + j * 1, none⟩) := by rw [← hρ1]; rfl
    have hrd : ∀ β a w, Md ρ1 S w0 β0 n0 (numX P fn p T n0 k d1 d2 d3) β a w → ctx P rowP (saysB fn p) (Exit.then (NextR S w0 β0 n0 T I (numMu li ll) (numMu li ll ρ)) Q) .normal a w := fun β a w M => by
      rw [← hρ1] at M
      exact round ρ h hlt (C j) hleaf _ β a w M
    rw [hρ1] at M3
    clear hρ1 M2
    obtain ⟨o1, o2, o3, hc, ⟨p1, t1, g1⟩, ⟨p2, t2, g2⟩, ⟨p3, t3, g3⟩⟩ := L.row
    have hE : P.elem tS = tE := by simp [Program.elem, L.uS]
    obtain ⟨d, hd1, hd2⟩ := L.uE
    obtain ⟨ii, hii, his⟩ : ∃ ii, P.info? tE = some ii ∧ ii.size = 1 := by
      have hinf := L.inf
      cases hq : P.info? tE with
      | none => rw [hq] at hinf; cases hinf
      | some ii => rw [hq] at hinf; injection hinf with hinf; exact ⟨ii, rfl, hinf⟩
    show (Sy.sub rowP (saysB fn p)).wp P (ctx P rowP (saysB fn p) _) a w1
    rw [hc]
    refine wp_region_list ?_
    show wpList P _ _ [o1, o2, o3] a w1
    have N1 : Md ρ1 S w0 β0 n0 ((lfAt (saysHd P fn p T n0) 0).put (some d1) (.any 1025)) β (a.put (some d1) (.pointer (some ⟨b, off + j * 1, none⟩))) w1 := by
      have := Sy.Md.put M3 (some d1) (.any 1025)
      rwa [show (SV.any 1025).den ρ1 β = ρ1.u 1025 from rfl, hu] at this
    have N2 := Sy.Md.put N1 (some d2) (.one (.c (.int k (.iv 100))))
    have N3 := Sy.Md.put N2 (some d3) (.one (.c (.int k (.iv 100))))
    have hd100 : (SV.one (.c (.int k (.iv 100)))).den ρ1 β = .int k y := by show Value.int k (ρ1.i 100) = _; rw [h100]
    rw [hd100] at N2 N3
    refine wpList_val (v := .pointer (some ⟨b, off + j * 1, none⟩)) (w' := w1) g1 ?_ ?_
    · have hx2 : a.eval (.tmp vx) = .slice (some ⟨b, off, none⟩) len cap := (Sy.Md.opd M3 (x := .tmp vx) L.tx).trans (hv1.trans hvl)
      have hi2 : a.eval (.tmp vi) = .int .i64 (j : Int) := (Sy.Md.opd M3 (x := .tmp vi) L.ti).trans (by show Value.int .i64 (ρ1.i li) = _; rw [hil])
      unfold execOp
      simp only [p1, hx2, hi2, Sem.run_bind]
      rw [run_indexAt_slice w1 tS _ _ _ .i64 (j : Int) (by rw [hE]; exact L.uS), hE, if_pos ⟨by omega, by omega⟩]
      simp only [sizeOf, typeInfo, Sem.run_bind, run_program, Result.andThen_ok, hii, Sem.run_pure, his, Int.toNat_natCast, Addr.add_mid]
    rw [t1]
    refine wpList_val (v := .int k y) (w' := w1) g2 ?_ ?_
    · have hx2 : (a.put (some d1) (.pointer (some ⟨b, off + j * 1, none⟩))).eval (.tmp d1) = .pointer (some ⟨b, off + j * 1, none⟩) := (Sy.Md.opd N1 (x := .tmp d1) L.e1).trans hu
      unfold execOp
      simp only [p2, hx2, Sem.run_bind, run_load1 hd1 hd2 hcell, Result.andThen_ok, Sem.run_pure]
    rw [t2]
    refine wpList_val (v := .int k y) (w' := w1) g3 ?_ ?_
    · have hx2 := (Sy.Md.opd N2 (x := .tmp d2) L.e2).trans hd100
      unfold execOp
      simp only [p3, hx2, Sem.run_bind, Sem.run_pure, Result.andThen_ok]
    rw [t3]
    exact wpList_nil (hrd _ _ _ N3)
  · intro hpc β a w1 hM1
    have hge : ¬ ρ.i li < ρ.i ll := by
      have := hpc.1
      rw [t_not, t_lt, i_iv, i_iv] at this
      exact this
    exact ⟨outB_ok id _ _ L.out, fin ρ h (by omega) β a w1 hM1⟩
/-- THE LOOP, from the region ahead of it on. -/
theorem num_loop (L : NumCode P fn p T n0 tS tE k id lo ll li x0 vx vl vi d1 d2 d3) {S : Nat → Prop} {w0 : World} {β0 : Bn} {a0 : Option Addr} {len cap : Nat} {C : Nat → List Value}
    (hS : ∀ g, g < w0.heap.size → ¬ S g)
    (hC : ∀ i, i < len → ∃ b off cap', Value.slice a0 len cap = .slice (some ⟨b, off, none⟩) len cap' ∧ leafAll [some (some k)] (C i) ∧ w0.rangeAt b (off + i * 1) (C i)) {Q : Exit → Act → World → Prop} {I : Env → Prop}
    (hI : ∀ ρ, I ρ → ρ.good ∧ ρ.v lo = .slice a0 len cap ∧ 0 ≤ ρ.i li ∧ ρ.i li ≤ ρ.i ll ∧ ρ.i ll = (len : Int))
    (round : ∀ ρ, I ρ → ρ.i li < ρ.i ll → ∀ cs, leafAll [some (some k)] cs → ∀ u β a w, Md { ρ.hi 100 cs with u := u } S w0 β0 n0 (numX P fn p T n0 k d1 d2 d3) β a w → ∀ Q, ctx P rowP (saysB fn p) (Exit.then (NextR S w0 β0 n0 T I (numMu li ll) (numMu li ll ρ)) Q) .normal a w)
    (fin : ∀ ρ, I ρ → ρ.i li = ρ.i ll → ∀ β a w, Md ρ S w0 β0 n0 (lfAt (saysHd P fn p T n0) 1) β a w → Q .normal a w)
    {ρ : Env} (hv : ρ.v lo = .slice a0 len cap) (hi1 : ρ.i ll = (len : Int)) {s : St} (hx0 : s.tm[x0]? = some (.one (.c (.opq lo)))) (hx1 : (s.put (some vx) (.one (.c (.opq lo)))).tm[vx]? = some (.one (.c (.opq lo))))
    (enter : ∀ β a w, Md ρ S w0 β0 n0 (numIn s lo ll vx vl vi) β a w → ∃ ρ' β', I ρ' ∧ Md ρ' S w0 β0 n0 T β' a w) {β : Bn} {a : Act} {w : World} (hM : Md ρ S w0 β0 n0 s β a w) : (Sy.sub p (bodyOf fn)).wp P Q a w := by
  obtain ⟨o1, o2, o3, hc, ⟨p1, t1, g1⟩, ⟨p2, t2, g2⟩, ⟨p3, t3, g3⟩⟩ := L.rg
  have hat := L.at_
  rw [hat]
  rw [hc]
  refine wp_seq (wp_region_list ?_)
  show wpList _ _ _ [o1, o2, o3] a w
  have M1 := Sy.Md.put hM (some vx) (.one (.c (.opq lo)))
  have M2 := Sy.Md.put M1 (some vl) (.one (.c (.int .i64 (.iv ll))))
  have M3 := Sy.Md.put M2 (some vi) (.one (.c (.int .i64 (.il 0))))
  refine wpList_val (v := .slice a0 len cap) (w' := w) g1 ?_ ?_
  · have := Sy.Md.opd hM (x := .tmp x0) hx0
    unfold execOp
    simp only [p1, this, Sem.run_bind, Sem.run_pure, Result.andThen_ok]
    show Result.ok (Next.value (ρ.v lo)) w = _
    rw [hv]
  rw [t1]
  have hd1 : (SV.one (.c (.opq lo))).den ρ β = .slice a0 len cap := hv
  rw [hd1] at M1 M2 M3
  refine wpList_val (v := .int .i64 (len : Int)) (w' := w) g2 ?_ ?_
  · have := (Sy.Md.opd M1 (x := .tmp vx) hx1).trans hd1
    unfold execOp
    simp only [p2, resolve, invoke, builtin, Sem.run_bind, Sem.run_pure, Result.andThen_ok, List.map_toArray, List.map_cons, List.map_nil, this, says_len_op L.uS]
  rw [t2]
  have hd2 : (SV.one (.c (.int .i64 (.iv ll)))).den ρ β = .int .i64 (len : Int) := by show Value.int .i64 (ρ.i ll) = _; rw [hi1]
  rw [hd2] at M2 M3
  refine wpList_val (v := .int .i64 0) (w' := w) g3 ?_ ?_
  · unfold execOp
    simp only [p3, Act.eval, Sem.run_bind, Sem.run_pure, Result.andThen_ok]
  rw [t3]
  refine wpList_nil ?_
  obtain ⟨ρ', β', hI', hM'⟩ := enter β _ w M3
  show (Code.block id (.loop (saysB fn p))).wp P Q _ w
  refine wp_block ?_
  refine loop_round (w0 := w0) (T := T) I (numMu li ll) (fun ρ hI1 β a w hM => num_round L hS hC hI (fun ρ h1 h2 cs h3 u β a w h4 => round ρ h1 h2 cs h3 u β a w h4 _) (fun ρ h1 h2 β a w h3 => ?_) hI1 hM) hI' hM'
  show (Exit.inBlock id Q) (.exit id) a w
  have := fin ρ h1 h2 β a w h3
  simpa [Exit.inBlock] using this
end
end Sy
end Go.Proofs.Ytnjpoidpfcfbeaa
/- RouteSays: runs with letters. -/
namespace Go.Proofs.Ytnjpoidpfcfbeaa
open Go.RowKit Sy
set_option linter.unusedVariables false
set_option linter.unusedSimpArgs false

def lwP : List Nat := [1, 1, 1, 0]
def lwA : List SV := [.one (.c (.opq 0)), .one (.c (.opq 1))]
def lwSt0 : Sy.St := ⟨[], [], ⟨[], []⟩, 0⟩
def lwPre (P : Program) (fn : Func) : Rs := run P [nwSp, adSp] 10 400 0 (.code (pre lwP (bodyOf fn))) (enterS fn lwA lwSt0)
def lwS0 (P : Program) (fn : Func) : Sy.St := { lfAt (lwPre P fn) 1 with hp := replHp (ownB 0 4 0 165 tn) (lfAt (lwPre P fn) 1).hp }
def lwS (P : Program) (fn : Func) : Sy.St := tabCell (lwS0 P fn) 2 0 40 171 rLv
def lwI (P : Program) (fn : Func) : Sy.St := saysIn (lwS P fn) 29 30 31
def lwBs : List Bd := [⟨.iv 0, 0, 140737488355328⟩, ⟨.iv 1, 0, 140737488355328⟩, ⟨tlen (.cv 0), 0, 64⟩, ⟨.iv 8, 0, 64⟩]
def l2Bs : List Bd := [⟨.iv 2, 0, 140737488355328⟩, ⟨.iv 3, 0, 140737488355328⟩, ⟨tlen (.cv 0), 0, 64⟩, ⟨.iv 8, 0, 64⟩]
def lwPc : List Tm := [.le (.iv 8) (tlen (.cv 0)), .le (tlen (.cv 0)) (.iv 8)]
def lwR : Bk := ⟨2, 93, [.slt 40 3 (.il 0) (.iv 8) (.il 0)], true, none, .no⟩
def lwT (P : Program) (fn : Func) : Sy.St := tplS (lwI P fn) (saysB fn lwP) [(31, .one (.c (.int .i64 (.iv 0))))] [ownB 0 4 0 165 (.cv 0), lwR, roN 40 (.cv 0)] ⟨lwBs, lwPc⟩ 70
def lwX (P : Program) (fn : Func) : Sy.St := saysX P fn lwP (lwT P fn) 0 200 33 34 8
def lwXb (k : Int) : List Bd := [⟨.md (.iv 100) (.il 3), k, k⟩, i64B 100, i64B 101, u32B 105, i64B 106]
def lwSp : List Sy.Spec := [ofSp, adSp, drSp, alSp, riSp, rdSp, rlSp, eqSp 56 29 xLv]
def lwOp (P : Program) (fn : Func) (k : Int) : Rs := run P lwSp 10 400 0 (.code (aft .normal rowP (saysB fn lwP))) { lwX P fn with cx := ⟨lwXb k ++ lwBs, lwPc⟩ }
def lwL (t : Tm) : List Sh := [.back [(.i 0 (.add (.iv 0) (.il 1))), .i 8 (tlen t), .c 0 t, .c 0 t] lwPc]
set_option maxRecDepth 100000 in
theorem lw_pre : shR 0 none (lwPre Try.prog Try.f7) = some [.out 0 .ret [.not (.eq (.ap 21 tn (.il 0) (.il 33)) (.il 1))], .out 1 .normal [(.eq (.ap 21 tn (.il 0) (.il 33)) (.il 1))]] := by kernel_rfl
set_option maxRecDepth 100000 in
theorem lw_own : find 0 (lfAt (lwPre Try.prog Try.f7) 1).hp = some (ownB 0 4 0 165 (.ap 22 tn (.il 0) (pkT (.il 33) (.il 0)))) := by kernel_rfl
set_option maxRecDepth 100000 in
theorem lw_code : SaysCode Try.prog Try.f7 lwP (lwT Try.prog Try.f7) 0 200 0 29 30 31 33 34 8 where
  rg4 := ⟨Sy.opAt (Sy.sub (lwP ++ [0]) (bodyOf Try.f7)) 0, Sy.opAt (Sy.sub (lwP ++ [0]) (bodyOf Try.f7)) 1, Sy.opAt (Sy.sub (lwP ++ [0]) (bodyOf Try.f7)) 2, by kernel_rfl, ⟨by kernel_rfl, by kernel_rfl, by kernel_rfl⟩, ⟨by kernel_rfl, by kernel_rfl, by kernel_rfl⟩, ⟨by kernel_rfl, by kernel_rfl, by kernel_rfl⟩⟩
  at_ := by kernel_rfl
  hd := by kernel_rfl
  row := ⟨Sy.opAt (Sy.sub rowP (saysB Try.f7 lwP)) 0, Sy.opAt (Sy.sub rowP (saysB Try.f7 lwP)) 1, Sy.opAt (Sy.sub rowP (saysB Try.f7 lwP)) 2, Sy.opAt (Sy.sub rowP (saysB Try.f7 lwP)) 3, by kernel_rfl, ⟨by kernel_rfl, by kernel_rfl, by kernel_rfl⟩, ⟨by kernel_rfl, by kernel_rfl, by kernel_rfl⟩, ⟨by kernel_rfl, by kernel_rfl, by kernel_rfl⟩, ⟨by kernel_rfl, by kernel_rfl, by kernel_rfl⟩⟩
  lo1 := by kernel_rfl
  any1 := by kernel_rfl
  tx := by kernel_rfl
  ti := by kernel_rfl
  hnr := by decide
  free := by kernel_rfl
  e1 := by kernel_rfl
  e2 := by kernel_rfl
  e3 := by kernel_rfl
  e4 := by kernel_rfl
  out := by kernel_rfl
  uS := Try.underlying22
  uE := ⟨_, Try.underlying41, rfl⟩
  inf := step_info
  zero := by kernel_rfl
  zlen := by kernel_rfl
set_option maxRecDepth 100000 in
theorem lw_in : (matchS 0 (lwT Try.prog Try.f7) (lwI Try.prog Try.f7)).map noU = some [.i 0 (.il 0), .i 8 (.il 0), .c 0 tn, .c 0 tn] := by kernel_rfl
set_option maxRecDepth 100000 in
theorem lw_free : ((lwS0 Try.prog Try.f7).free 40, (lwS0 Try.prog Try.f7).free 41) = (true, true) := by kernel_rfl
set_option maxRecDepth 100000 in
theorem lw_tm : ((lwS Try.prog Try.f7).tm[0]?, ((lwS Try.prog Try.f7).put (some 29) (.one (.c (.opq 0)))).tm[29]?) = (some (.one (.c (.opq 0))), some (.one (.c (.opq 0)))) := by kernel_rfl
theorem lw_okP : okP lwP (bodyOf Try.f7) = true := by kernel_rfl
set_option maxRecDepth 100000 in
theorem lw_cx : (lwT Try.prog Try.f7).cx = ⟨lwBs, lwPc⟩ := by kernel_rfl
set_option maxRecDepth 100000 in
theorem lw_op0 : shR 0 (some (lwT Try.prog Try.f7)) (lwOp Try.prog Try.f7 0) = some (lwL (.ap 24 (.cv 0) (.iv 105) (.iv 106))) := by kernel_rfl
set_option maxRecDepth 100000 in
theorem lw_op1 : shR 0 (some (lwT Try.prog Try.f7)) (lwOp Try.prog Try.f7 1) = some (lwL (adT' (.cv 0) (.iv 105) (.iv 106) (.iv 101))) := by kernel_rfl
set_option maxRecDepth 100000 in
theorem lw_op2 : shR 0 (some (lwT Try.prog Try.f7)) (lwOp Try.prog Try.f7 2) = some (lwL (adT' (.cv 0) (.iv 105) (.iv 106) (.iv 101))) := by kernel_rfl
set_option maxRecDepth 100000 in
theorem eqPx : EqRuns Try.prog 56 Try.f56 29 xLv where
  row := fun ρ => rfl
  hf := Try.func56
  body := by kernel_rfl
  run0 := by kernel_rfl
  ret0 := by kernel_rfl
  match_ := by kernel_rfl
  loop := by kernel_rfl
  run1 := by kernel_rfl
  cx1 := by kernel_rfl
  ret1 := by kernel_rfl
  fin := by kernel_rfl
/-! The second loop. -/
def l2P : List Nat := [1, 1, 1, 1, 0]
def l2Bi : List Bd := [⟨.iv 2, 0, 140737488355328⟩, ⟨tlen (.cv 0), 0, 64⟩, ⟨.iv 8, 0, 64⟩]
def l2S (P : Program) (fn : Func) : Sy.St := { lfAt (saysHd P fn lwP (lwT P fn) 0) 1 with cx := ⟨l2Bi, lwPc⟩ }
def l2I (P : Program) (fn : Func) : Sy.St := numIn (l2S P fn) 1 2 71 72 73
def l2T (P : Program) (fn : Func) : Sy.St := tplS (l2I P fn) (saysB fn l2P) [(73, .one (.c (.int .i64 (.iv 3))))] [] ⟨l2Bs, lwPc⟩ 70
def l2X (P : Program) (fn : Func) : Sy.St := { numX P fn l2P (l2T P fn) 0 .u32 75 76 11 with cx := ⟨u32B 100 :: l2Bs, lwPc⟩ }
def l2Op (P : Program) (fn : Func) : Rs := run P [ffSp, rfSp] 10 400 0 (.code (aft .normal rowP (saysB fn l2P))) (l2X P fn)
def l2E (P : Program) (fn : Func) : Sy.St := lfAt (saysHd P fn l2P (l2T P fn) 0) 1
def l2F (P : Program) (fn : Func) : Rs := run P [] 10 400 0 (.code (Sy.sub [1, 1, 1, 1, 1] (bodyOf fn))) (l2E P fn)
set_option maxRecDepth 100000 in
theorem l2_in : (matchS 0 (l2T Try.prog Try.f7) (l2I Try.prog Try.f7)).map noU = some [.i 3 (.il 0)] := by kernel_rfl
set_option maxRecDepth 100000 in
theorem l2_cx : (l2T Try.prog Try.f7).cx = ⟨l2Bs, lwPc⟩ := by kernel_rfl
set_option maxRecDepth 100000 in
theorem l2_op : shR 0 (some (l2T Try.prog Try.f7)) (l2Op Try.prog Try.f7) = some [.back [.i 3 (.add (.iv 3) (.il 1))] lwPc] := by kernel_rfl
set_option maxRecDepth 100000 in
theorem l2_end : shR 0 none (l2F Try.prog Try.f7) = some [.out 0 .ret (.not (.lt (.iv 3) (.iv 2)) :: lwPc)] := by kernel_rfl
set_option maxRecDepth 100000 in
theorem l2_ret : retsB Try.prog Try.f7 (l2F Try.prog Try.f7) (.one (.c (.bool (.bl true)))) [0] = true := by kernel_rfl
set_option maxRecDepth 100000 in
theorem l2_tm : ((l2S Try.prog Try.f7).tm[1]?, ((l2S Try.prog Try.f7).put (some 71) (.one (.c (.opq 1)))).tm[71]?) = (some (.one (.c (.opq 1))), some (.one (.c (.opq 1)))) := by kernel_rfl
set_option maxRecDepth 100000 in
theorem l2_seq : Sy.sub [1, 1, 1, 1] (bodyOf Try.f7) = .seq (Sy.sub l2P (bodyOf Try.f7)) (Sy.sub [1, 1, 1, 1, 1] (bodyOf Try.f7)) := by kernel_rfl
set_option maxRecDepth 100000 in
theorem l2_code : NumCode Try.prog Try.f7 l2P (l2T Try.prog Try.f7) 0 87 27 .u32 2 1 2 3 1 71 72 73 75 76 11 where
  rg := ⟨Sy.opAt (Sy.sub (l2P ++ [0]) (bodyOf Try.f7)) 0, Sy.opAt (Sy.sub (l2P ++ [0]) (bodyOf Try.f7)) 1, Sy.opAt (Sy.sub (l2P ++ [0]) (bodyOf Try.f7)) 2, by kernel_rfl, ⟨by kernel_rfl, by kernel_rfl, by kernel_rfl⟩, ⟨by kernel_rfl, by kernel_rfl, by kernel_rfl⟩, ⟨by kernel_rfl, by kernel_rfl, by kernel_rfl⟩⟩
  at_ := by kernel_rfl
  hd := by kernel_rfl
  row := ⟨Sy.opAt (Sy.sub rowP (saysB Try.f7 l2P)) 0, Sy.opAt (Sy.sub rowP (saysB Try.f7 l2P)) 1, Sy.opAt (Sy.sub rowP (saysB Try.f7 l2P)) 2, by kernel_rfl, ⟨by kernel_rfl, by kernel_rfl, by kernel_rfl⟩, ⟨by kernel_rfl, by kernel_rfl, by kernel_rfl⟩, ⟨by kernel_rfl, by kernel_rfl, by kernel_rfl⟩⟩
  lo1 := by kernel_rfl
  any1 := by kernel_rfl
  tx := by kernel_rfl
  ti := by kernel_rfl
  e1 := by kernel_rfl
  e2 := by kernel_rfl
  out := by kernel_rfl
  uS := Try.underlying87
  uE := ⟨_, Try.underlying27, rfl⟩
  inf := by kernel_rfl
end Go.Proofs.Ytnjpoidpfcfbeaa
/- RouteSays: rounds; the walk. -/
namespace Go.Proofs.Ytnjpoidpfcfbeaa
open Go.RowKit Sy
set_option linter.unusedVariables false
set_option linter.unusedSimpArgs false

def u32Leaves : List Leaf := [some (some .u32)]
structure LwI (vs vt : Value) (len lem : Nat) (ρ : Env) : Prop where
  g : ρ.good
  v : ρ.v 0 = vs
  v1 : ρ.v 1 = vt
  f : ρ.f = rtF
  o : ρ.o 0 = rtT
  i0 : 0 ≤ ρ.i 0
  le : ρ.i 0 ≤ ρ.i 1
  i1 : ρ.i 1 = (len : Int)
  i2 : ρ.i 2 = (lem : Int)
  rows : RtOk (ρ.c 0)
  i8 : ρ.i 8 = ((ρ.c 0).length : Int)
structure L2I (vt : Value) (lem : Nat) (ρ : Env) : Prop where
  g : ρ.good
  v1 : ρ.v 1 = vt
  f : ρ.f = rtF
  o : ρ.o 0 = rtT
  i3 : 0 ≤ ρ.i 3
  le : ρ.i 3 ≤ ρ.i 2
  i2 : ρ.i 2 = (lem : Int)
  rows : RtOk (ρ.c 0)
  i8 : ρ.i 8 = ((ρ.c 0).length : Int)
section
variable {vs vt : Value} {len lem : Nat}
theorem LwI.bs (hl : len ≤ 140737488355328) {ρ : Env} (h : LwI vs vt len lem ρ) : bdsP ρ lwBs := by
  have i0 := h.i0
  have le := h.le
  have i1 := h.i1
  have i8 := h.i8
  have l64 := h.rows.l64
  refine ⟨?_, ?_, ?_, ?_, trivial⟩
  · show 0 ≤ ρ.i 0 ∧ ρ.i 0 ≤ 140737488355328; omega
  · show 0 ≤ ρ.i 1 ∧ ρ.i 1 ≤ 140737488355328; omega
  · show (0 : Int) ≤ ((ρ.c 0).length : Int) ∧ ((ρ.c 0).length : Int) ≤ 64; omega
  · show 0 ≤ ρ.i 8 ∧ ρ.i 8 ≤ 64; omega
theorem lw_pcs {ρ : Env} (i8 : ρ.i 8 = ((ρ.c 0).length : Int)) : pcs ρ lwPc := by
  refine ⟨?_, ?_, trivial⟩
  · rw [t_le]; show ρ.i 8 ≤ ((ρ.c 0).length : Int); omega
  · rw [t_le]; show ((ρ.c 0).length : Int) ≤ ρ.i 8; omega
theorem LwI.cx (hl : len ≤ 140737488355328) {ρ : Env} (h : LwI vs vt len lem ρ) : Cx.ok ρ ⟨lwBs, lwPc⟩ := cxP (h.bs hl) (lw_pcs h.i8)
theorem LwI.hi {ρ : Env} (h : LwI vs vt len lem ρ) (cs : List Value) (u : Nat → Value) : LwI vs vt len lem { ρ.hi 100 cs with u := u } := ⟨h.g, h.v, h.v1, h.f, h.o, h.i0, h.le, h.i1, h.i2, h.rows, h.i8⟩
theorem L2I.bs (hl : lem ≤ 140737488355328) {ρ : Env} (h : L2I vt lem ρ) : bdsP ρ l2Bs := by
  have i3 := h.i3
  have le := h.le
  have i2 := h.i2
  have i8 := h.i8
  have l64 := h.rows.l64
  refine ⟨?_, ?_, ?_, ?_, trivial⟩
  · show 0 ≤ ρ.i 2 ∧ ρ.i 2 ≤ 140737488355328; omega
  · show 0 ≤ ρ.i 3 ∧ ρ.i 3 ≤ 140737488355328; omega
  · show (0 : Int) ≤ ((ρ.c 0).length : Int) ∧ ((ρ.c 0).length : Int) ≤ 64; omega
  · show 0 ≤ ρ.i 8 ∧ ρ.i 8 ≤ 64; omega
theorem L2I.cx (hl : lem ≤ 140737488355328) {ρ : Env} (h : L2I vt lem ρ) : Cx.ok ρ ⟨l2Bs, lwPc⟩ := cxP (h.bs hl) (lw_pcs h.i8)
theorem L2I.hi {ρ : Env} (h : L2I vt lem ρ) (cs : List Value) (u : Nat → Value) : L2I vt lem { ρ.hi 100 cs with u := u } := ⟨h.g, h.v1, h.f, h.o, h.i3, h.le, h.i2, h.rows, h.i8⟩
theorem x_int {cs : List Value} (h : leafAll stepLeaves cs) (n : Nat) (hn : stepLeaves[n]? = some (some (some .i64))) : -9223372036854775808 ≤ intAt cs n ∧ intAt cs n ≤ 9223372036854775807 := by
  obtain ⟨y, hy, hw⟩ := leaf_int h n hn
  unfold intAt
  rw [hy]
  exact bounds_i64 hw
theorem x_u32 {l : List Leaf} {cs : List Value} (h : leafAll l cs) (n : Nat) (hn : l[n]? = some (some (some .u32))) : 0 ≤ intAt cs n ∧ intAt cs n ≤ 4294967295 := by
  obtain ⟨y, hy, hw⟩ := leaf_int h n hn
  unfold intAt
  rw [hy]
  exact bounds_u32 hw
theorem x_bds {cs : List Value} (h : leafAll stepLeaves cs) (ρ : Env) (u : Nat → Value) {k : Int} (hm : intAt cs 0 % 3 = k) : Bds { ρ.hi 100 cs with u := u } (lwXb k) := by
  refine bdsP_ok ⟨?_, ?_, ?_, ?_, ?_, trivial⟩
  · show k ≤ intAt cs 0 % 3 ∧ intAt cs 0 % 3 ≤ k; omega
  · exact x_int h 0 rfl
  · exact x_int h 1 rfl
  · exact x_u32 h 5 rfl
  · exact x_int h 6 rfl
theorem lw_sp {ρ : Env} (h : LwI vs vt len lem ρ) : ∀ q ∈ lwSp, q.Ok Try.prog ρ := by
  intro q hq
  change q ∈ [_, _, _, _, _, _, _, _] at hq
  simp only [List.mem_cons, List.not_mem_nil, or_false] at hq
  rcases hq with rfl | rfl | rfl | rfl | rfl | rfl | rfl | rfl
  · exact ofSp_ok
  · exact adSp_ok h.f h.o
  · exact drSp_ok h.f h.o
  · exact alSp_ok h.f h.o
  · exact riSp_ok h.f h.rows
  · exact rdSp_ok h.f h.rows
  · exact rlSp_ok h.f
  · exact eqSp_ok eqPx
theorem lw_md {ρ : Env} {S : Nat → Prop} {w0 : World} {β0 : Bn} {n0 : Nat} {s : Sy.St} {β : Bn} {a : Act} {w : World} (hM : Md ρ S w0 β0 n0 s β a w) (c : Cx) (hc : c.ok ρ) : Md ρ S w0 β0 n0 { s with cx := c } β a w := ⟨hM.act, hM.hp, hM.ne, hM.may, hc, hM.only, hM.old⟩
variable {w0 : World} {Q : Exit → Act → World → Prop}
abbrev LwQ (w0 : World) (vs vt : Value) (len lem m : Nat) (Q : Exit → Act → World → Prop) : Exit → Act → World → Prop := Exit.then (NextR (fun _ => False) w0 (fun _ => 0) 0 (lwT Try.prog Try.f7) (LwI vs vt len lem) saysMu m) Q
set_option maxRecDepth 100000 in
set_option maxHeartbeats 1000000 in
theorem lw_r (hl : len ≤ 140737488355328) {ρ : Env} (hI : LwI vs vt len lem ρ) (hlt : ρ.i 0 < ρ.i 1) {cs : List Value} (hcs : leafAll stepLeaves cs) {k : Int} (hm : intAt cs 0 % 3 = k) {t : Tm} (hrun : shR 0 (some (lwT Try.prog Try.f7)) (lwOp Try.prog Try.f7 k) = some (lwL t)) {u : Nat → Value} (hrow : ∀ ρ' : Env, ρ' = { ρ.hi 100 cs with u := u } → RtOk (den ρ' t).c) {β : Bn} {a : Act} {w : World}
    (hM : Md { ρ.hi 100 cs with u := u } (fun _ => False) w0 (fun _ => 0) 0 (lwX Try.prog Try.f7) β a w) : ctx Try.prog rowP (saysB Try.f7 lwP) (LwQ w0 vs vt len lem (saysMu ρ) Q) .normal a w := by
  have hI1 := hI.hi cs u
  have hM1 := lw_md hM ⟨lwXb k ++ lwBs, lwPc⟩ ⟨fun x hx => (List.mem_append.1 hx).elim (x_bds hcs ρ u hm x) (bdsP_ok (hI1.bs hl) x), pcs_all (lw_pcs hI1.i8)⟩
  have hlt1 : ({ ρ.hi 100 cs with u := u } : Env).i 0 < ({ ρ.hi 100 cs with u := u } : Env).i 1 := hlt
  have hmu : saysMu ρ = saysMu { ρ.hi 100 cs with u := u } := rfl
  have hrow1 := hrow _ rfl
  rw [hmu]
  generalize ({ ρ.hi 100 cs with u := u } : Env) = ρ1 at hM1 hI1 hlt1 hrow1
  clear hM hI hlt hm hmu hcs hrow
  refine round_aft .normal (r := lwOp Try.prog Try.f7 k) rfl hrun (I := LwI vs vt len lem) (fun ρ h => by rw [lw_cx]; exact h.cx hl) hI1.g (lw_sp hI1) ⟨?_, trivial⟩ hM1
  intro hpc β1 u1
  have h0 := hI1.i0
  refine ⟨⟨hI1.g, hI1.v, hI1.v1, hI1.f, hI1.o, ?_, ?_, hI1.i1, hI1.i2, hrow1, rfl⟩, ?_⟩
  · show 0 ≤ ρ1.i 0 + 1; omega
  · show ρ1.i 0 + 1 ≤ ρ1.i 1; omega
  · show (ρ1.i 1 - (ρ1.i 0 + 1)).toNat < (ρ1.i 1 - ρ1.i 0).toNat; omega
abbrev LwR (w0 : World) : Exit → Act → World → Prop := bodyPost Try.prog Try.f7 (RetP fun v w' => v = .bool true ∧ Below w0.heap.size w0 w')
set_option maxRecDepth 100000 in
set_option maxHeartbeats 1000000 in
theorem l2_r (hl : lem ≤ 140737488355328) {ρ : Env} (hI : L2I vt lem ρ) (hlt : ρ.i 3 < ρ.i 2) {cs : List Value} (hcs : leafAll [some (some .u32)] cs) {u : Nat → Value} {β : Bn} {a : Act} {w : World}
    (hM : Md { ρ.hi 100 cs with u := u } (fun _ => False) w0 (fun _ => 0) 0 (numX Try.prog Try.f7 l2P (l2T Try.prog Try.f7) 0 .u32 75 76 11) β a w) : ctx Try.prog rowP (saysB Try.f7 l2P) (Exit.then (NextR (fun _ => False) w0 (fun _ => 0) 0 (l2T Try.prog Try.f7) (L2I vt lem) (numMu 3 2) (numMu 3 2 ρ)) Q) .normal a w := by
  have hI1 := hI.hi cs u
  have hb100 : bdsP { ρ.hi 100 cs with u := u } [u32B 100] := ⟨x_u32 hcs 0 rfl, trivial⟩
  have hM1 := lw_md hM ⟨u32B 100 :: l2Bs, lwPc⟩ (cxP ⟨hb100.1, hI1.bs hl⟩ (lw_pcs hI1.i8))
  have hlt1 : ({ ρ.hi 100 cs with u := u } : Env).i 3 < ({ ρ.hi 100 cs with u := u } : Env).i 2 := hlt
  have hmu : numMu 3 2 ρ = numMu 3 2 { ρ.hi 100 cs with u := u } := rfl
  rw [hmu]
  generalize ({ ρ.hi 100 cs with u := u } : Env) = ρ1 at hM1 hI1 hlt1
  clear hM hI hlt hmu hcs hb100
  refine round_aft .normal (sp := [ffSp, rfSp]) (r := l2Op Try.prog Try.f7) rfl l2_op (I := L2I vt lem) (fun ρ h => by rw [l2_cx]; exact h.cx hl) hI1.g (fun q hq => ?_) ⟨?_, trivial⟩ hM1
  · simp only [List.mem_cons, List.not_mem_nil, or_false] at hq
    rcases hq with rfl | rfl
    · exact ffSp_ok hI1.f hI1.o
    · exact rfSp_ok hI1.f
  intro hpc β1 u1
  have h3 := hI1.i3
  refine ⟨⟨hI1.g, hI1.v1, hI1.f, hI1.o, ?_, ?_, hI1.i2, hI1.rows, hI1.i8⟩, ?_⟩
  · show 0 ≤ ρ1.i 3 + 1; omega
  · show ρ1.i 3 + 1 ≤ ρ1.i 2; omega
  · show (ρ1.i 2 - (ρ1.i 3 + 1)).toNat < (ρ1.i 2 - ρ1.i 3).toNat; omega
theorem L2B {ρ : Env} (hI : LwI vs vt len lem ρ) (hl : lem ≤ 140737488355328) : Cx.ok ρ ⟨l2Bi, lwPc⟩ := by
  have i2 := hI.i2
  have i8 := hI.i8
  have l64 := hI.rows.l64
  refine cxP ⟨?_, ?_, ?_, trivial⟩ (lw_pcs i8)
  · show 0 ≤ ρ.i 2 ∧ ρ.i 2 ≤ 140737488355328; omega
  · show (0 : Int) ≤ ((ρ.c 0).length : Int) ∧ ((ρ.c 0).length : Int) ≤ 64; omega
  · show 0 ≤ ρ.i 8 ∧ ρ.i 8 ≤ 64; omega
set_option maxRecDepth 100000 in
/-- The second loop, and the end. -/
theorem l2_fin {a0 : Option Addr} {cap : Nat} {C : Nat → List Value} (hl : lem ≤ 140737488355328) (hC : ∀ i, i < lem → ∃ b off cap', Value.slice a0 lem cap = .slice (some ⟨b, off, none⟩) lem cap' ∧ leafAll [some (some .u32)] (C i) ∧ w0.rangeAt b (off + i * 1) (C i)) {ρ : Env} (hI : LwI vs (.slice a0 lem cap) len lem ρ) {β : Bn} {a : Act} {w : World} (hM : Md ρ (fun _ => False) w0 (fun _ => 0) 0 (lfAt (saysHd Try.prog Try.f7 lwP (lwT Try.prog Try.f7) 0) 1) β a w) :
    ctx Try.prog (lwP ++ [1]) (bodyOf Try.f7) (LwR w0) .normal a w := by
  have i2 := hI.i2
  have i8 := hI.i8
  have l64 := hI.rows.l64
  have hM1 : Md ρ (fun _ => False) w0 (fun _ => 0) 0 (l2S Try.prog Try.f7) β a w := lw_md hM ⟨l2Bi, lwPc⟩ (L2B hI hl)
  show (Sy.sub [1, 1, 1, 1] (bodyOf Try.f7)).wp Try.prog (LwR w0) a w
  rw [l2_seq]
  refine wp_seq ?_
  obtain ⟨tm1, tm2⟩ := Prod.mk.inj l2_tm
  refine num_loop l2_code (a0 := a0) (cap := cap) (len := lem) (I := L2I (.slice a0 lem cap) lem) (fun g _ h => h) hC (fun ρ h => ⟨h.g, h.v1, h.i3, h.le, h.i2⟩) (fun ρ hI hlt cs hcs u β a w hM Q => l2_r hl hI hlt hcs hM) ?_ hI.v1 hI.i2 tm1 tm2 ?_ hM1
  · intro ρ1 h1 he β1 a1 w1 M1
    show (Sy.sub [1, 1, 1, 1, 1] (bodyOf Try.f7)).wp Try.prog (LwR w0) a1 w1
    refine part_wp (B := ⟨ρ1, fun _ => False, w0, fun _ => 0, 0⟩) (sp := []) (lim := 10) (fuel := 400) h1.g (fun q hq => by cases hq) rfl (r := l2F Try.prog Try.f7) rfl l2_end ⟨?_, trivial⟩ M1
    intro _ β2 a2 w2 M2
    exact ret_post (B := ⟨ρ1, fun _ => False, w0, fun _ => 0, 0⟩) M2 (retsB_ok l2_ret rfl) ⟨rfl, Sy.Only.below_all M2.only⟩
  · intro β1 a1 w1 M1
    have I0 : ∀ u, L2I (.slice a0 lem cap) lem { ρ.sub β1 [.i 3 (.il 0)] with u := u } := fun u => ⟨hI.g, hI.v1, hI.f, hI.o, Int.le_refl 0, (by show (0 : Int) ≤ ρ.i 2; omega), hI.i2, hI.rows, hI.i8⟩
    obtain ⟨u, β', hM5⟩ := Sy.Md.enter M1 l2_in fun u => by rw [l2_cx]; exact (I0 u).cx hl
    exact ⟨_, β', I0 u, hM5⟩
end
set_option maxRecDepth 100000 in
set_option maxHeartbeats 2000000 in
theorem walk_routeSays (w : World) (a : Option Addr) (len cap : Nat) (a' : Option Addr) (lem cap' : Nat) (o : Opened stepLeaves w a len cap) (hl : len ≤ 140737488355328) (o' : Opened u32Leaves w a' lem cap') (hl' : lem ≤ 140737488355328) :
    Calls Try.prog 7 #[.slice a len cap, .slice a' lem cap'] w fun e w' => e = .returned (.bool true) ∧ Below w.heap.size w w' := by
  obtain ⟨C, _, hC0⟩ := came_of o
  obtain ⟨C', _, hC0'⟩ := came_of o'
  have hC : ∀ i, i < len → ∃ b off cap', Value.slice a len cap = .slice (some ⟨b, off, none⟩) len cap' ∧ leafAll stepLeaves (C i) ∧ w.rangeAt b (off + i * 45) (C i) := by
    rcases hC0 with rfl | ⟨b, off, rfl, _, hC⟩
    · intro i hi
      omega
    · exact fun i hi => ⟨b, off, cap, rfl, (hC i hi).1, (hC i hi).2⟩
  have hC' : ∀ i, i < lem → ∃ b off cap'', Value.slice a' lem cap' = .slice (some ⟨b, off, none⟩) lem cap'' ∧ leafAll [some (some .u32)] (C' i) ∧ w.rangeAt b (off + i * 1) (C' i) := by
    rcases hC0' with rfl | ⟨b, off, rfl, _, hC⟩
    · intro i hi
      omega
    · exact fun i hi => ⟨b, off, cap', rfl, (hC i hi).1, (hC i hi).2⟩
  let ρ0 : Env := { mkEnv0 [0, (len : Int), (lem : Int)] [] [] [.slice a len cap, .slice a' lem cap'] with f := rtF, o := fun _ => rtT }
  have hg0 : ρ0.good := fun i => by
    rcases i with _ | _ | i
    · rfl
    · rfl
    · rfl
  have hM0 : Md ρ0 (fun _ => False) w (fun _ => 0) 0 lwSt0 (fun _ => 0) ⟨#[], []⟩ w := Sy.Md.init trivial trivial trivial (cxP trivial trivial) rfl
  have hs1 : adC [] 0 33 = 1 := by decide
  have hr1 : adR [] 0 33 0 = [] := by
    unfold adR
    rw [hs1]
    rfl
  refine (calls_pre (B := ⟨ρ0, fun _ => False, w, fun _ => 0, 0⟩) (sp := [nwSp, adSp]) (p := lwP) (xs := lwA) (s := lwSt0) (r := lwPre Try.prog Try.f7) hg0 (fun q hq => by
    simp only [List.mem_cons, List.not_mem_nil, or_false] at hq
    rcases hq with rfl | rfl
    · exact nwSp_ok rfl
    · exact adSp_ok rfl rfl) rfl Try.func7 rfl rfl lw_pre hM0 (R := fun v w' => v = .bool true ∧ Below w.heap.size w w') ⟨?_, ?_, trivial⟩ rfl).mono ?_
  · intro hpc β a1 w1 hM1
    exfalso
    have q := hpc.1
    rw [t_not, t_eq] at q
    exact q hs1
  · intro hpc β a1 w1 hM1
    obtain ⟨fr1, fr2⟩ := Prod.mk.inj lw_free
    obtain ⟨tm1, tm2⟩ := Prod.mk.inj lw_tm
    have hb := (find_mem lw_own).1
    have M0 : Md ρ0 (fun _ => False) w (fun _ => 0) 0 (lwS0 Try.prog Try.f7) β a1 w1 := Sy.Md.repl hM1 (b := ownB 0 4 0 165 (.ap 22 tn (.il 0) (pkT (.il 33) (.il 0)))) (nb := ownB 0 4 0 165 tn) hb rfl (fun h => h) (fun h => h) hM1.only (by
      have h1 : rtT.P w1 (β 0) (bitF β [.ptr 4 0]) (den ρ0 (.ap 22 tn (.il 0) (pkT (.il 33) (.il 0)))).c := hM1.hp _ hb
      have e : (den ρ0 (.ap 22 tn (.il 0) (pkT (.il 33) (.il 0)))).c = [] := (adT_c (ρ := ρ0) rfl tn (.il 0) (.il 33) (.il 0) (show (-9223372036854775808 : Int) ≤ 33 by decide) (show (33 : Int) ≤ 9223372036854775807 by decide) (show (-9223372036854775808 : Int) ≤ 0 by decide) (show (0 : Int) ≤ 9223372036854775807 by decide)).trans hr1
      rw [e] at h1
      exact h1) (fun x hx _ => hM1.hp x hx)
    obtain ⟨β1, M1⟩ := Sy.Md.tabCell M0 2 0 40 171 rLv (Nat.zero_le _) fr1 fr2
    refine says_loop lw_code (a0 := a) (cap := cap) (I := LwI (.slice a len cap) (.slice a' lem cap') len lem) (fun g _ h => h) hC (fun ρ h => ⟨h.g, h.v, h.i0, h.le, h.i1⟩) ?_ ?_ (show ρ0.v 0 = .slice a len cap from rfl) (show ρ0.i 1 = (len : Int) from rfl) tm1 tm2 lw_okP ?_ M1
    · intro ρ hI hlt cs hcs u β a w1 hM Q
      have h3 : intAt cs 0 % 3 = 0 ∨ intAt cs 0 % 3 = 1 ∨ intAt cs 0 % 3 = 2 := by omega
      have ha := x_u32 hcs 5 rfl
      have hv := x_int hcs 1 rfl
      have hn := x_int hcs 6 rfl
      have add : ∀ ρ' : Env, ρ' = { ρ.hi 100 cs with u := u } → RtOk (den ρ' (adT' (.cv 0) (.iv 105) (.iv 106) (.iv 101))).c := fun ρ' e => by
        subst e
        rw [adT_c (ρ := { ρ.hi 100 cs with u := u }) hI.f (.cv 0) (.iv 105) (.iv 106) (.iv 101) hn.1 hn.2 hv.1 hv.2]
        exact adR_ok hI.rows ha.1 ha.2 hv.1 hv.2
      rcases h3 with h3 | h3 | h3
      · refine lw_r hl hI hlt hcs h3 lw_op0 (fun ρ' e => ?_) hM
        subst e
        show RtOk (ρ.f 24 _ _ _).c
        rw [hI.f]
        exact drR_ok hI.rows _ _
      · exact lw_r hl hI hlt hcs h3 lw_op1 add hM
      · exact lw_r hl hI hlt hcs h3 lw_op2 add hM
    · intro ρ hI he β a w1 hM
      exact l2_fin hl' hC' hI hM
    · intro β ac w1 hM
      have hI0 : ∀ u, LwI (.slice a len cap) (.slice a' lem cap') len lem { ρ0.sub β [.i 0 (.il 0), .i 8 (.il 0), .c 0 tn, .c 0 tn] with u := u } := fun u => ⟨hg0, rfl, rfl, rfl, rfl, Int.le_refl 0, (by show (0 : Int) ≤ (len : Int); omega), rfl, rfl, RtOk0, rfl⟩
      obtain ⟨u, β', hM5⟩ := Sy.Md.enter hM lw_in fun u => by rw [lw_cx]; exact (hI0 u).cx hl
      exact ⟨_, β', hI0 u, hM5⟩
  · rintro e w' ⟨v, rfl, rfl, hb⟩
    exact ⟨rfl, hb⟩
end Go.Proofs.Ytnjpoidpfcfbeaa
