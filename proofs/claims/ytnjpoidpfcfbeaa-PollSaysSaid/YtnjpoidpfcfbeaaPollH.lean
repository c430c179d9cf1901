/- PollSays: runs with letters; rounds; the walk. -/
import Derived.Test.YtnjpoidpfcfbeaaPollG
import Derived.Test.YtnjpoidpfcfbeaaSliceSz
namespace Go.Proofs.Ytnjpoidpfcfbeaa
open Go.RowKit Sy
set_option linter.unusedVariables false
set_option linter.unusedSimpArgs false

/-! The rows stay rows. -/
structure RowsOk (rows : List (List Value)) : Prop where
  good : ∀ r ∈ rows, WRow r
  l16 : rows.length ≤ 16
theorem mem_getD {rows : List (List Value)} {k : Nat} (hk : k < rows.length) : rows.getD k [] ∈ rows := by
  rw [List.getD_eq_getElem?_getD, List.getElem?_eq_getElem hk]; exact List.getElem_mem _
theorem set_good {rows : List (List Value)} (h : RowsOk rows) {k : Nat} {r : List Value} (hr : WRow r) : RowsOk (rows.set k r) := by
  refine ⟨fun z hz => ?_, by rw [List.length_set]; exact h.l16⟩
  rcases List.mem_or_eq_of_mem_set hz with q | q
  · exact h.good z q
  · rw [q]; exact hr
theorem setR_ok {rows : List (List Value)} (h : RowsOk rows) (x y : Int) (e : Bool) : RowsOk (setR rows x y e) := by
  have hbd := ixOf_bd (isFd x) rows
  unfold setR
  split
  · exact h
  · split
    · split
      · exact h
      · have hr := (wC_mk (a := x) (m := y % 8) (r := 0) e true (by omega) (m8 y) (by omega)).2
        refine ⟨fun z hz => ?_, by rw [List.length_append, List.length_singleton]; omega⟩
        rcases List.mem_append.1 hz with q | q
        · exact h.good z q
        · rw [List.mem_singleton.1 q]; exact hr
    · have hk : (ixOf (isFd x) rows).toNat < rows.length := by omega
      have hg := h.good _ (mem_getD hk)
      exact set_good h (wC_mk (m := y % 8) e true (gI_bd (k := .i64) _ 0) (m8 y) ⟨hg.r0, hg.r1⟩).2
theorem drpR_ok {rows : List (List Value)} (h : RowsOk rows) (x : Int) : RowsOk (drpR rows x) := by
  unfold drpR
  split
  · exact h
  · refine ⟨fun z hz => h.good z (List.mem_of_mem_eraseIdx hz), ?_⟩
    have := h.l16
    rw [List.length_eraseIdx]
    split <;> omega
theorem notR_ok {rows : List (List Value)} (h : RowsOk rows) (x y : Int) : RowsOk (notR rows x y) := by
  have hbd := ixOf_bd (isFd x) rows
  unfold notR
  split
  · exact h
  · have hk : (ixOf (isFd x) rows).toNat < rows.length := by omega
    have hg := h.good _ (mem_getD hk)
    exact set_good h (wC_mk _ _ (gI_bd (k := .i64) _ 0) ⟨hg.m0, hg.m1⟩ (m8 y)).2
theorem wtS_mem (most : Int) : ∀ (l : List (List Value)) (n : Nat), (∀ r ∈ (wtS most n l).1, r ∈ l) ∧ ∀ r ∈ (wtS most n l).2, r ∈ l
  | [], _ => ⟨fun _ h => h, fun _ h => h⟩
  | a :: l, n => by
    have h1 := wtS_mem most l n
    have h2 := wtS_mem most l (n + 1)
    simp only [wtS]
    split
    · refine ⟨fun r hr => List.mem_cons_of_mem _ (h1.1 r hr), fun r hr => ?_⟩
      rcases List.mem_cons.1 hr with rfl | hr
      · exact List.mem_cons_self ..
      · exact List.mem_cons_of_mem _ (h1.2 r hr)
    · refine ⟨fun r hr => ?_, fun r hr => List.mem_cons_of_mem _ (h2.2 r hr)⟩
      rcases List.mem_cons.1 hr with rfl | hr
      · exact List.mem_cons_self ..
      · exact List.mem_cons_of_mem _ (h2.1 r hr)
theorem waR_ok {rows : List (List Value)} (h : RowsOk rows) (most : Int) : RowsOk (waR rows most) := by
  unfold waR
  split
  · exact h
  · have hm := wtS_mem most rows 0
    have hl := wtS_len most rows 0
    have h16 := h.l16
    refine ⟨fun r hr => ?_, by rw [List.length_append, List.length_map]; omega⟩
    rcases List.mem_append.1 hr with q | q
    · exact h.good r (hm.2 r q)
    · obtain ⟨z, hz, rfl⟩ := List.mem_map.1 q
      exact toldR_ok (h.good z (hm.1 z hz))
/-! The runs. -/
def plP : List Nat := [1, 1, 1, 0]
def plA : List SV := [.one (.c (.opq 0))]
def plSt0 : Sy.St := ⟨[], [], ⟨[], []⟩, 0⟩
def plPre (P : Program) (fn : Func) : Rs := run P [nwSp, seSp] 10 400 0 (.code (pre plP (bodyOf fn))) (enterS fn plA plSt0)
def plS0 (P : Program) (fn : Func) : Sy.St := { lfAt (plPre P fn) 1 with hp := replHp (ownT 0 4 134 tn) (lfAt (plPre P fn) 1).hp }
def plS (P : Program) (fn : Func) : Sy.St := tabCell (plS0 P fn) 2 0 40 139 waLv
def plI (P : Program) (fn : Func) : Sy.St := saysIn (plS P fn) 26 27 28
def plBs : List Bd := [⟨.iv 0, 0, 140737488355328⟩, ⟨.iv 1, 0, 140737488355328⟩, ⟨tlen (.cv 0), 0, 16⟩, ⟨.iv 8, 0, 16⟩]
def plPc : List Tm := [.le (.iv 8) (tlen (.cv 0)), .le (tlen (.cv 0)) (.iv 8)]
def plR : Bk := ⟨2, 69, [.slt 40 5 (.il 0) (.iv 8) (.il 0)], true, none, .no⟩
def plT (P : Program) (fn : Func) : Sy.St := tplS (plI P fn) (saysB fn plP) [(28, .one (.c (.int .i64 (.iv 0))))] [ownT 0 4 134 (.cv 0), plR, rfT 40 (.cv 0)] ⟨plBs, plPc⟩ 70
def plX (P : Program) (fn : Func) : Sy.St := saysX P fn plP (plT P fn) 0 200 30 31 6
def xBs (k : Int) : List Bd := [⟨.md (.iv 100) (.il 5), k, k⟩, i64B 100, i64B 101, i64B 102]
def plSp : List Sy.Spec := [ofSp, seSp, drSp', noSp, waSp, rseSp, rdrSp, rnoSp, rwaSp, eqSp 44 78 wkLv]
def plOp (P : Program) (fn : Func) (k : Int) : Rs := run P plSp 10 400 0 (.code (aft .normal rowP (saysB fn plP))) { plX P fn with cx := ⟨xBs k ++ plBs, plPc⟩ }
def n1T : Tm := .ap 11 tn (.il (-1)) (pkT (.il 0) (.bl false))
def bkL (t : Tm) : List Sh := [.back [(.i 0 (.add (.iv 0) (.il 1))), .i 8 (tlen t), .c 0 t, .c 0 t] plPc]
set_option maxRecDepth 100000 in
theorem pl_pre : shR 0 none (plPre Try.prog Try.f5) = some [.out 0 .ret [.not (.eq (.ap 10 tn (.il (-1)) (.il 0)) (.il 1))], .out 1 .normal [(.eq (.ap 10 tn (.il (-1)) (.il 0)) (.il 1))]] := by kernel_rfl
set_option maxRecDepth 100000 in
theorem pl_own : find 0 (lfAt (plPre Try.prog Try.f5) 1).hp = some (ownT 0 4 134 n1T) := by kernel_rfl
set_option maxRecDepth 100000 in
theorem pl_code : SaysCode Try.prog Try.f5 plP (plT Try.prog Try.f5) 0 200 0 26 27 28 30 31 6 where
  rg4 := ⟨Sy.opAt (Sy.sub (plP ++ [0]) (bodyOf Try.f5)) 0, Sy.opAt (Sy.sub (plP ++ [0]) (bodyOf Try.f5)) 1, Sy.opAt (Sy.sub (plP ++ [0]) (bodyOf Try.f5)) 2, by kernel_rfl, ⟨by kernel_rfl, by kernel_rfl, by kernel_rfl⟩, ⟨by kernel_rfl, by kernel_rfl, by kernel_rfl⟩, ⟨by kernel_rfl, by kernel_rfl, by kernel_rfl⟩⟩
  at_ := by kernel_rfl
  hd := by kernel_rfl
  row := ⟨Sy.opAt (Sy.sub rowP (saysB Try.f5 plP)) 0, Sy.opAt (Sy.sub rowP (saysB Try.f5 plP)) 1, Sy.opAt (Sy.sub rowP (saysB Try.f5 plP)) 2, Sy.opAt (Sy.sub rowP (saysB Try.f5 plP)) 3, by kernel_rfl, ⟨by kernel_rfl, by kernel_rfl, by kernel_rfl⟩, ⟨by kernel_rfl, by kernel_rfl, by kernel_rfl⟩, ⟨by kernel_rfl, by kernel_rfl, by kernel_rfl⟩, ⟨by kernel_rfl, by kernel_rfl, by kernel_rfl⟩⟩
  lo1 := by kernel_rfl
  any1 := by kernel_rfl
  tx := by kernel_rfl
  ti := by kernel_rfl
  hnr := by decide
  free := by kernel_rfl
  e1 := by kernel_rfl
  e2 := by kernel_rfl
  e3 := by kernel_rfl
  e4 := by kernel_rfl
  out := by kernel_rfl
  uS := Try.underlying22
  uE := ⟨_, Try.underlying41, rfl⟩
  inf := step_info
  zero := by kernel_rfl
  zlen := by kernel_rfl
set_option maxRecDepth 100000 in
theorem pl_in : (matchS 0 (plT Try.prog Try.f5) (plI Try.prog Try.f5)).map noU = some [.i 0 (.il 0), .i 8 (.il 0), .c 0 tn, .c 0 tn] := by kernel_rfl
set_option maxRecDepth 100000 in
theorem pl_free : ((plS0 Try.prog Try.f5).free 40, (plS0 Try.prog Try.f5).free 41) = (true, true) := by kernel_rfl
set_option maxRecDepth 100000 in
theorem pl_tm : ((plS Try.prog Try.f5).tm[0]?, ((plS Try.prog Try.f5).put (some 26) (.one (.c (.opq 0)))).tm[26]?) = (some (.one (.c (.opq 0))), some (.one (.c (.opq 0)))) := by kernel_rfl
theorem pl_okP : okP plP (bodyOf Try.f5) = true := by kernel_rfl
set_option maxRecDepth 100000 in
theorem pl_cx : (plT Try.prog Try.f5).cx = ⟨plBs, plPc⟩ := by kernel_rfl
set_option maxRecDepth 100000 in
theorem pl_op0 : shR 0 (some (plT Try.prog Try.f5)) (plOp Try.prog Try.f5 0) = some (bkL (.ap 11 (.cv 0) (.iv 101) (pkT (.iv 102) (.bv 103)))) := by kernel_rfl
set_option maxRecDepth 100000 in
theorem pl_op1 : shR 0 (some (plT Try.prog Try.f5)) (plOp Try.prog Try.f5 1) = some (bkL (.ap 13 (.cv 0) (.iv 101) (.il 0))) := by kernel_rfl
set_option maxRecDepth 100000 in
theorem pl_op2 : shR 0 (some (plT Try.prog Try.f5)) (plOp Try.prog Try.f5 2) = some (bkL (.ap 14 (.cv 0) (.iv 101) (.iv 102))) := by kernel_rfl
set_option maxRecDepth 100000 in
theorem pl_op3 : shR 0 (some (plT Try.prog Try.f5)) (plOp Try.prog Try.f5 3) = some (bkL (.ap 14 (.cv 0) (.iv 101) (.iv 102))) := by kernel_rfl
set_option maxRecDepth 100000 in
theorem pl_op4 : shR 0 (some (plT Try.prog Try.f5)) (plOp Try.prog Try.f5 4) = some (bkL (.ap 17 (.cv 0) (.iv 102) (.il 0))) := by kernel_rfl
set_option maxRecDepth 100000 in
theorem pl_end : smR Try.prog Try.f5 0 (run Try.prog plSp 10 400 0 (.code (aft .normal (plP ++ [1]) (bodyOf Try.f5))) (lfAt (saysHd Try.prog Try.f5 plP (plT Try.prog Try.f5) 0) 1)) = some [.ret (.one (.c (.bool (.bl true)))) [⟨74, 139, [], true, none, .tab waLv (.ap 17 (.cv 0) (.il 16) (.il 0))⟩] (.not (.lt (.iv 0) (.iv 1)) :: plPc)] := by kernel_rfl
set_option maxRecDepth 100000 in
theorem eqWk : EqRuns Try.prog 44 Try.f44 78 wkLv where
  row := fun ρ => rfl
  hf := Try.func44
  body := by kernel_rfl
  run0 := by kernel_rfl
  ret0 := by kernel_rfl
  match_ := by kernel_rfl
  loop := by kernel_rfl
  run1 := by kernel_rfl
  cx1 := by kernel_rfl
  ret1 := by kernel_rfl
  fin := by kernel_rfl
end Go.Proofs.Ytnjpoidpfcfbeaa
/- PollSays: rounds; the walk. -/
namespace Go.Proofs.Ytnjpoidpfcfbeaa
open Go.RowKit Sy
set_option linter.unusedVariables false
set_option linter.unusedSimpArgs false

structure PlI (vs : Value) (len : Nat) (ρ : Env) : Prop where
  g : ρ.good
  v : ρ.v 0 = vs
  f : ρ.f = poF
  o : ρ.o 0 = polT
  i0 : 0 ≤ ρ.i 0
  le : ρ.i 0 ≤ ρ.i 1
  i1 : ρ.i 1 = (len : Int)
  rows : RowsOk (ρ.c 0)
  i8 : ρ.i 8 = ((ρ.c 0).length : Int)
section
variable {vs : Value} {len : Nat}
theorem PlI.bs (hl : len ≤ 140737488355328) {ρ : Env} (h : PlI vs len ρ) : bdsP ρ plBs := by
  have i0 := h.i0
  have le := h.le
  have i1 := h.i1
  have i8 := h.i8
  have l16 := h.rows.l16
  refine ⟨?_, ?_, ?_, ?_, trivial⟩
  · show 0 ≤ ρ.i 0 ∧ ρ.i 0 ≤ 140737488355328; omega
  · show 0 ≤ ρ.i 1 ∧ ρ.i 1 ≤ 140737488355328; omega
  · show (0 : Int) ≤ ((ρ.c 0).length : Int) ∧ ((ρ.c 0).length : Int) ≤ 16; omega
  · show 0 ≤ ρ.i 8 ∧ ρ.i 8 ≤ 16; omega
theorem PlI.pc {ρ : Env} (h : PlI vs len ρ) : pcs ρ plPc := by
  have i8 := h.i8
  refine ⟨?_, ?_, trivial⟩
  · rw [t_le]; show ρ.i 8 ≤ ((ρ.c 0).length : Int); omega
  · rw [t_le]; show ((ρ.c 0).length : Int) ≤ ρ.i 8; omega
theorem PlI.cx (hl : len ≤ 140737488355328) {ρ : Env} (h : PlI vs len ρ) : Cx.ok ρ ⟨plBs, plPc⟩ := cxP (h.bs hl) h.pc
theorem PlI.hi {ρ : Env} (h : PlI vs len ρ) (cs : List Value) (u : Nat → Value) : PlI vs len { ρ.hi 100 cs with u := u } := ⟨h.g, h.v, h.f, h.o, h.i0, h.le, h.i1, h.rows, h.i8⟩
theorem x_int {cs : List Value} (h : leafAll stepLeaves cs) (n : Nat) (hn : stepLeaves[n]? = some (some (some .i64))) : -9223372036854775808 ≤ intAt cs n ∧ intAt cs n ≤ 9223372036854775807 := by
  obtain ⟨y, hy, hw⟩ := leaf_int h n hn
  unfold intAt
  rw [hy]
  exact bounds_i64 hw
theorem x_bds {cs : List Value} (h : leafAll stepLeaves cs) (ρ : Env) (u : Nat → Value) {k : Int} (hm : intAt cs 0 % 5 = k) : Bds { ρ.hi 100 cs with u := u } (xBs k) := by
  refine bdsP_ok ⟨?_, ?_, ?_, ?_, trivial⟩
  · show k ≤ intAt cs 0 % 5 ∧ intAt cs 0 % 5 ≤ k; omega
  · exact x_int h 0 rfl
  · exact x_int h 1 rfl
  · exact x_int h 2 rfl
theorem pl_sp {ρ : Env} (h : PlI vs len ρ) : ∀ q ∈ plSp, q.Ok Try.prog ρ := by
  intro q hq
  change q ∈ [_, _, _, _, _, _, _, _, _, _] at hq
  simp only [List.mem_cons, List.not_mem_nil, or_false] at hq
  rcases hq with rfl | rfl | rfl | rfl | rfl | rfl | rfl | rfl | rfl | rfl
  · exact ofSp_ok
  · exact seSp_ok h.f h.o
  · exact drSp'_ok h.f h.o
  · exact noSp_ok h.f h.o
  · exact waSp_ok h.f h.o
  · exact rseSp_ok h.f
  · exact rdrSp_ok h.f
  · exact rnoSp_ok h.f h.rows.good
  · exact rwaSp_ok h.f h.rows.good
  · exact eqSp_ok eqWk
theorem pl_md {ρ : Env} {S : Nat → Prop} {w0 : World} {β0 : Bn} {n0 : Nat} {s : Sy.St} {β : Bn} {a : Act} {w : World} (hM : Md ρ S w0 β0 n0 s β a w) (c : Cx) (hc : c.ok ρ) : Md ρ S w0 β0 n0 { s with cx := c } β a w := ⟨hM.act, hM.hp, hM.ne, hM.may, hc, hM.only, hM.old⟩
variable {w0 : World} {Q : Exit → Act → World → Prop}
abbrev PlQ (w0 : World) (vs : Value) (len m : Nat) (Q : Exit → Act → World → Prop) : Exit → Act → World → Prop := Exit.then (NextR (fun _ => False) w0 (fun _ => 0) 0 (plT Try.prog Try.f5) (PlI vs len) saysMu m) Q
set_option maxRecDepth 100000 in
set_option maxHeartbeats 1000000 in
theorem pl_r (hl : len ≤ 140737488355328) {ρ : Env} (hI : PlI vs len ρ) (hlt : ρ.i 0 < ρ.i 1) {cs : List Value} (hcs : leafAll stepLeaves cs) {k : Int} (hm : intAt cs 0 % 5 = k) {t : Tm} (hrun : shR 0 (some (plT Try.prog Try.f5)) (plOp Try.prog Try.f5 k) = some (bkL t)) {u : Nat → Value} (hrow : ∀ ρ' : Env, ρ' = { ρ.hi 100 cs with u := u } → RowsOk (den ρ' t).c) {β : Bn} {a : Act} {w : World}
    (hM : Md { ρ.hi 100 cs with u := u } (fun _ => False) w0 (fun _ => 0) 0 (plX Try.prog Try.f5) β a w) : ctx Try.prog rowP (saysB Try.f5 plP) (PlQ w0 vs len (saysMu ρ) Q) .normal a w := by
  have hI1 := hI.hi cs u
  have hM1 := pl_md hM ⟨xBs k ++ plBs, plPc⟩ ⟨fun x hx => (List.mem_append.1 hx).elim (x_bds hcs ρ u hm x) (bdsP_ok (hI1.bs hl) x), pcs_all hI1.pc⟩
  have hlt1 : ({ ρ.hi 100 cs with u := u } : Env).i 0 < ({ ρ.hi 100 cs with u := u } : Env).i 1 := hlt
  have hmu : saysMu ρ = saysMu { ρ.hi 100 cs with u := u } := rfl
  have hrow1 := hrow _ rfl
  rw [hmu]
  generalize ({ ρ.hi 100 cs with u := u } : Env) = ρ1 at hM1 hI1 hlt1 hrow1
  clear hM hI hlt hm hmu hcs hrow
  refine round_aft .normal (r := plOp Try.prog Try.f5 k) rfl hrun (I := PlI vs len) (fun ρ h => by rw [pl_cx]; exact h.cx hl) hI1.g (pl_sp hI1) ⟨?_, trivial⟩ hM1
  intro hpc β1 u1
  have h0 := hI1.i0
  refine ⟨⟨hI1.g, hI1.v, hI1.f, hI1.o, ?_, ?_, hI1.i1, hrow1, rfl⟩, ?_⟩
  · show 0 ≤ ρ1.i 0 + 1; omega
  · show ρ1.i 0 + 1 ≤ ρ1.i 1; omega
  · show (ρ1.i 1 - (ρ1.i 0 + 1)).toNat < (ρ1.i 1 - ρ1.i 0).toNat; omega
set_option maxRecDepth 100000 in
theorem pl_fin {vs : Value} {len : Nat} {ρ : Env} (hI : PlI vs len ρ) {β : Bn} {a : Act} {w : World} (hM : Md ρ (fun _ => False) w0 (fun _ => 0) 0 (lfAt (saysHd Try.prog Try.f5 plP (plT Try.prog Try.f5) 0) 1) β a w) :
    ctx Try.prog (plP ++ [1]) (bodyOf Try.f5) (bodyPost Try.prog Try.f5 (RetP fun v w' => v = .bool true ∧ Below w0.heap.size w0 w')) .normal a w := by
  refine aft_fin (B := ⟨ρ, fun _ => False, w0, fun _ => 0, 0⟩) hI.g (pl_sp hI) rfl .normal pl_end ⟨?_, trivial⟩ hM
  intro hpc β w2 hH
  exact ⟨rfl, Sy.Only.below_all hH.only⟩
end
set_option maxRecDepth 100000 in
set_option maxHeartbeats 2000000 in
theorem walk_pollSays (w : World) (a : Option Addr) (len cap : Nat) (o : Opened stepLeaves w a len cap) (hl : len ≤ 140737488355328) :
    Calls Try.prog 5 #[.slice a len cap] w fun e w' => e = .returned (.bool true) ∧ Below w.heap.size w w' := by
  obtain ⟨C, _, hC0⟩ := came_of o
  have hC : ∀ i, i < len → ∃ b off cap', Value.slice a len cap = .slice (some ⟨b, off, none⟩) len cap' ∧ leafAll stepLeaves (C i) ∧ w.rangeAt b (off + i * 45) (C i) := by
    rcases hC0 with rfl | ⟨b, off, rfl, _, hC⟩
    · intro i hi
      omega
    · exact fun i hi => ⟨b, off, cap, rfl, (hC i hi).1, (hC i hi).2⟩
  let ρ0 : Env := { mkEnv0 [0, (len : Int)] [] [] [.slice a len cap] with f := poF, o := fun _ => polT }
  have hg0 : ρ0.good := fun i => by
    rcases i with _ | i
    · rfl
    · rfl
  have hM0 : Md ρ0 (fun _ => False) w (fun _ => 0) 0 plSt0 (fun _ => 0) ⟨#[], []⟩ w := Sy.Md.init trivial trivial trivial (cxP trivial trivial) rfl
  have hs1 : setC [] (-1) = 1 := by decide
  have hr1 : setR [] (-1) 0 false = [] := by decide
  refine (calls_pre (B := ⟨ρ0, fun _ => False, w, fun _ => 0, 0⟩) (sp := [nwSp, seSp]) (p := plP) (xs := plA) (s := plSt0) (r := plPre Try.prog Try.f5) hg0 (fun q hq => by
    simp only [List.mem_cons, List.not_mem_nil, or_false] at hq
    rcases hq with rfl | rfl
    · exact nwSp_ok rfl
    · exact seSp_ok rfl rfl) rfl Try.func5 rfl rfl pl_pre hM0 (R := fun v w' => v = .bool true ∧ Below w.heap.size w w') ⟨?_, ?_, trivial⟩ rfl).mono ?_
  · intro hpc β a1 w1 hM1
    exfalso
    have q := hpc.1
    rw [t_not, t_eq] at q
    exact q hs1
  · intro hpc β a1 w1 hM1
    obtain ⟨fr1, fr2⟩ := Prod.mk.inj pl_free
    obtain ⟨tm1, tm2⟩ := Prod.mk.inj pl_tm
    have hb := (find_mem pl_own).1
    have M0 : Md ρ0 (fun _ => False) w (fun _ => 0) 0 (plS0 Try.prog Try.f5) β a1 w1 := Sy.Md.repl hM1 (b := ownT 0 4 134 n1T) (nb := ownT 0 4 134 tn) hb rfl (fun h => h) (fun h => h) hM1.only (by
      have h1 : polT.P w1 (β 0) (bitF β [.ptr 4 0]) (den ρ0 n1T).c := hM1.hp _ hb
      have e : (den ρ0 n1T).c = [] := (seT'_c (ρ := ρ0) rfl tn (.il (-1)) (.il 0) (.bl false) (show (-9223372036854775808 : Int) ≤ 0 by decide) (show (0 : Int) ≤ 9223372036854775807 by decide)).trans hr1
      rw [e] at h1
      exact h1) (fun x hx _ => hM1.hp x hx)
    obtain ⟨β1, M1⟩ := Sy.Md.tabCell M0 2 0 40 139 waLv (Nat.zero_le _) fr1 fr2
    refine says_loop pl_code (a0 := a) (cap := cap) (I := PlI (.slice a len cap) len) (fun g _ h => h) hC (fun ρ h => ⟨h.g, h.v, h.i0, h.le, h.i1⟩) ?_ ?_ (show ρ0.v 0 = .slice a len cap from rfl) (show ρ0.i 1 = (len : Int) from rfl) tm1 tm2 pl_okP ?_ M1
    · intro ρ hI hlt cs hcs u β a w1 hM Q
      have h5 : intAt cs 0 % 5 = 0 ∨ intAt cs 0 % 5 = 1 ∨ intAt cs 0 % 5 = 2 ∨ intAt cs 0 % 5 = 3 ∨ intAt cs 0 % 5 = 4 := by omega
      rcases h5 with h5 | h5 | h5 | h5 | h5
      · refine pl_r hl hI hlt hcs h5 pl_op0 (fun ρ' e => ?_) hM
        subst e
        obtain ⟨y0, y1⟩ := x_int hcs 2 rfl
        have := seT'_c (ρ := { ρ.hi 100 cs with u := u }) hI.f (.cv 0) (.iv 101) (.iv 102) (.bv 103) y0 y1
        unfold seT' at this
        rw [this]
        exact setR_ok hI.rows _ _ _
      · refine pl_r hl hI hlt hcs h5 pl_op1 (fun ρ' e => ?_) hM
        subst e
        show RowsOk (ρ.f 13 _ _ _).c
        rw [hI.f]
        exact drpR_ok hI.rows _
      · refine pl_r hl hI hlt hcs h5 pl_op2 (fun ρ' e => ?_) hM
        subst e
        show RowsOk (ρ.f 14 _ _ _).c
        rw [hI.f]
        exact notR_ok hI.rows _ _
      · refine pl_r hl hI hlt hcs h5 pl_op3 (fun ρ' e => ?_) hM
        subst e
        show RowsOk (ρ.f 14 _ _ _).c
        rw [hI.f]
        exact notR_ok hI.rows _ _
      · refine pl_r hl hI hlt hcs h5 pl_op4 (fun ρ' e => ?_) hM
        subst e
        show RowsOk (ρ.f 17 _ _ _).c
        rw [hI.f]
        exact waR_ok hI.rows _
    · intro ρ hI he β a w1 hM
      exact pl_fin hI hM
    · intro β ac w1 hM
      have hI0 : ∀ u, PlI (.slice a len cap) len { ρ0.sub β [.i 0 (.il 0), .i 8 (.il 0), .c 0 tn, .c 0 tn] with u := u } := fun u => ⟨hg0, rfl, rfl, rfl, Int.le_refl 0, (by show (0 : Int) ≤ (len : Int); omega), rfl, ⟨fun r hr => (by cases hr), Nat.zero_le _⟩, rfl⟩
      obtain ⟨u, β', hM5⟩ := Sy.Md.enter hM pl_in fun u => by rw [pl_cx]; exact (hI0 u).cx hl
      exact ⟨_, β', hI0 u, hM5⟩
  · rintro e w' ⟨v, rfl, rfl, hb⟩
    exact ⟨rfl, hb⟩
end Go.Proofs.Ytnjpoidpfcfbeaa
