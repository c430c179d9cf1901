/- Who waits to be taken: the reference's drop and Many. -/
import Derived.Test.YtnjpoidpfcfbeaaLs0
namespace Go.Proofs.Ytnjpoidpfcfbeaa
open Go.RowKit Sy
set_option linter.unusedVariables false
set_option linter.unusedSimpArgs false

theorem take_next {l : List (List Value)} {j : Nat} (h : j < l.length) : l.take (j + 1) = l.take j ++ [l.getD j []] := by
  rw [List.take_add_one, List.getElem?_eq_getElem h, List.getD, List.getElem?_eq_getElem h]
  rfl
theorem wt_cells {b : List Value} (h : kAll wtLv b) : b = [.int .u32 (gI .u32 b 0), .int .i64 (gI .i64 b 1), .bool (gB b 2), .int .i64 (gI .i64 b 3)] := by
  unfold wtLv at h
  obtain ⟨a0, b, rfl, h0, h⟩ := kAll_cons h
  obtain ⟨a1, b, rfl, h1, h⟩ := kAll_cons h
  obtain ⟨a2, b, rfl, h2, h⟩ := kAll_cons h
  obtain ⟨a3, b, rfl, h3, h⟩ := kAll_cons h
  have := kAll_nil h
  subst this
  have e0 : Value.int .u32 (gI .u32 [a0, a1, a2, a3] 0) = a0 := getV_int h0
  have e1 : Value.int .i64 (gI .i64 [a0, a1, a2, a3] 1) = a1 := getV_int h1
  have e2 : Value.bool (gB [a0, a1, a2, a3] 2) = a2 := getV_bool h2
  have e3 : Value.int .i64 (gI .i64 [a0, a1, a2, a3] 3) = a3 := getV_int h3
  rw [e0, e1, e2, e3]
/-- Those that are not from there. -/
def dropW (a p : Int) (l : List (List Value)) : List (List Value) := l.filter fun r => !fromW a p r
/-- How many are half made. -/
def halfN (l : List (List Value)) : Nat := l.countP fun r => gB r 2
theorem dropW_next {a p : Int} {l : List (List Value)} {j : Nat} (h : j < l.length) : dropW a p (l.take (j + 1)) = dropW a p (l.take j) ++ if fromW a p (l.getD j []) = true then [] else [l.getD j []] := by
  unfold dropW
  rw [take_next h, List.filter_append]
  congr 1
  generalize l.getD j [] = r
  cases hq : fromW a p r <;> simp [hq]
theorem halfN_next {l : List (List Value)} {j : Nat} (h : j < l.length) : halfN (l.take (j + 1)) = halfN (l.take j) + if gB (l.getD j []) 2 = true then 1 else 0 := by
  unfold halfN
  rw [take_next h, List.countP_append]
  congr 1
  generalize l.getD j [] = r
  cases hq : gB r 2 <;> simp [hq]
def drP : List Nat := [1, 1, 0, 1, 2]
def drSt (rw : Bool) : Sy.St := ⟨[], [blO rw, wtTb], ⟨lsBs, []⟩, 50⟩
def dr0 (P : Program) (fn : Func) : Rs := run P [] 10 400 50 (.code (pre drP (bodyOf fn))) (enterS fn fnA (drSt true))
def drS (P : Program) (fn : Func) : Sy.St := tabSlot (lfAt (dr0 P fn) 0) 4 60 125 wtLv
def drTb : Bk := ⟨60, 125, [], true, none, .tab wtLv (.cv 1)⟩
def drCx : Cx := ⟨⟨.iv 0, 0, 4000⟩ :: ⟨.iv 1, 0, 4000⟩ :: ⟨tlen (.cv 1), 0, 4000⟩ :: lsBs, [.le (.iv 0) (tlen (.cv 0)), .le (.iv 1) (tlen (.cv 1)), .le (tlen (.cv 1)) (.iv 1)]⟩
def drT (P : Program) (fn : Func) : Sy.St := tplS (drS P fn) (lpBody (Sy.sub drP (bodyOf fn))) [(12, .one (.c (.int .i64 (.iv 0)))), (4, .one (.c (.slt 60 4 (.il 0) (.iv 1) (.il 0))))] [drTb] drCx 70
def dr1 (P : Program) (fn : Func) : Rs := run P [] 10 400 50 (.code (lpBody (Sy.sub drP (bodyOf fn)))) (drT P fn)
def mnA : List SV := [.one (.c (.ptr 0 0))]
def mn0 (P : Program) (fn : Func) : Rs := run P [] 10 400 50 (.code (pre drP (bodyOf fn))) (enterS fn mnA (drSt false))
def mnCx : Cx := ⟨⟨.iv 0, 0, 4000⟩ :: ⟨.iv 1, 0, 4000⟩ :: lsBs, [.le (.iv 0) (tlen (.cv 0)), .le (.iv 1) (.iv 0)]⟩
def mnT (P : Program) (fn : Func) : Sy.St := tplS (lfAt (mn0 P fn) 0) (lpBody (Sy.sub drP (bodyOf fn))) [(12, .one (.c (.int .i64 (.iv 0)))), (4, .one (.c (.int .i64 (.iv 1))))] [] mnCx 70
def mn1 (P : Program) (fn : Func) : Rs := run P [] 10 400 50 (.code (lpBody (Sy.sub drP (bodyOf fn)))) (mnT P fn)
def rowI (c i : Tm) : Tm := .tb (.cons (.int .u32)) (.tb (.get (.int .u32) 0) c i (.il 0)) (.tb (.cons (.int .i64)) (.tb (.get (.int .i64) 1) c i (.il 0)) (.tb (.cons .bool) (.tb (.get .bool 2) c i (.il 0)) (.tb (.cons (.int .i64)) (.tb (.get (.int .i64) 3) c i (.il 0)) (.tb .row (.il 0) (.il 0) (.il 0)) (.il 0)) (.il 0)) (.il 0)) (.il 0)
set_option maxRecDepth 100000 in
theorem dr_run0 : shR 50 none (dr0 Try.prog Try.f70) = some [(.out 0 .normal [])] := by kernel_rfl
set_option maxRecDepth 100000 in
theorem dr_match : (matchS 50 (drT Try.prog Try.f70) (drS Try.prog Try.f70)).map noU = some [.i 1 (.il 0), .i 0 (.il 0), .c 1 tn] := by kernel_rfl
set_option maxRecDepth 100000 in
theorem dr_free : ((lfAt (dr0 Try.prog Try.f70) 0).free 60, (lfAt (dr0 Try.prog Try.f70) 0).free 61) = (true, true) := by kernel_rfl
set_option maxRecDepth 100000 in
theorem dr_loop : Code.loop (lpBody (Sy.sub drP (bodyOf Try.f70))) = Sy.sub drP (bodyOf Try.f70) := by kernel_rfl
set_option maxRecDepth 100000 in
theorem dr_run1 : shR 50 (some (drT Try.prog Try.f70)) (dr1 Try.prog Try.f70) = some
    [(.back [(.i 1 (.add (.tb .len (.cv 1) (.il 0) (.il 0)) (.il 1))), (.i 0 (.add (.iv 0) (.il 1))), (.c 1 (.tb .app (.cv 1) (rowI (.cv 0) (.iv 0)) (.il 0)))] [(.not (.and (.eq (.tb (.get (.int .u32) 0) (.cv 0) (.iv 0) (.il 0)) (.iv 20)) (.eq (.tb (.get (.int .i64) 1) (.cv 0) (.iv 0) (.il 0)) (.iv 21)))), (.lt (.iv 0) (.tb .len (.cv 0) (.il 0) (.il 0))), (.le (.iv 0) (.tb .len (.cv 0) (.il 0) (.il 0))), (.le (.iv 1) (.tb .len (.cv 1) (.il 0) (.il 0))), (.le (.tb .len (.cv 1) (.il 0) (.il 0)) (.iv 1))]),
    (.back [(.i 0 (.add (.iv 0) (.il 1)))] [(.and (.eq (.tb (.get (.int .u32) 0) (.cv 0) (.iv 0) (.il 0)) (.iv 20)) (.eq (.tb (.get (.int .i64) 1) (.cv 0) (.iv 0) (.il 0)) (.iv 21))), (.lt (.iv 0) (.tb .len (.cv 0) (.il 0) (.il 0))), (.le (.iv 0) (.tb .len (.cv 0) (.il 0) (.il 0))), (.le (.iv 1) (.tb .len (.cv 1) (.il 0) (.il 0))), (.le (.tb .len (.cv 1) (.il 0) (.il 0)) (.iv 1))]),
    (.out 2 (.exit 0) [(.not (.lt (.iv 0) (.tb .len (.cv 0) (.il 0) (.il 0)))), (.le (.iv 0) (.tb .len (.cv 0) (.il 0) (.il 0))), (.le (.iv 1) (.tb .len (.cv 1) (.il 0) (.il 0))), (.le (.tb .len (.cv 1) (.il 0) (.il 0)) (.iv 1))])] := by kernel_rfl
def drHp : List Bk := [⟨0, 121, [(.int .i64 (.iv 24)), (.slt 60 4 (.il 0) (.iv 1) (.il 0))], true, .none, .no⟩, drTb, wtTb]
set_option maxRecDepth 100000 in
theorem dr_fin : smR Try.prog Try.f70 50 (run Try.prog [] 10 400 50 (.code (aft (.exit 0) drP (bodyOf Try.f70))) (lfAt (dr1 Try.prog Try.f70) 2)) = some
    [(.ret (.tup []) drHp [(.not (.lt (.iv 0) (.tb .len (.cv 0) (.il 0) (.il 0)))), (.le (.iv 0) (.tb .len (.cv 0) (.il 0) (.il 0))), (.le (.iv 1) (.tb .len (.cv 1) (.il 0) (.il 0))), (.le (.tb .len (.cv 1) (.il 0) (.il 0)) (.iv 1))])] := by kernel_rfl
set_option maxRecDepth 100000 in
theorem mn_run0 : shR 50 none (mn0 Try.prog Try.f34) = some [(.out 0 .normal [])] := by kernel_rfl
set_option maxRecDepth 100000 in
theorem mn_match : (matchS 50 (mnT Try.prog Try.f34) (lfAt (mn0 Try.prog Try.f34) 0)).map noU = some [.i 1 (.il 0), .i 0 (.il 0)] := by kernel_rfl
set_option maxRecDepth 100000 in
theorem mn_loop : Code.loop (lpBody (Sy.sub drP (bodyOf Try.f34))) = Sy.sub drP (bodyOf Try.f34) := by kernel_rfl
set_option maxRecDepth 100000 in
theorem mn_run1 : shR 50 (some (mnT Try.prog Try.f34)) (mn1 Try.prog Try.f34) = some
    [(.back [(.i 1 (.add (.iv 1) (.il 1))), (.i 0 (.add (.iv 0) (.il 1)))] [(.tb (.get .bool 2) (.cv 0) (.iv 0) (.il 0)), (.lt (.iv 0) (.tb .len (.cv 0) (.il 0) (.il 0))), (.le (.iv 0) (.tb .len (.cv 0) (.il 0) (.il 0))), (.le (.iv 1) (.iv 0))]), (.back [(.i 0 (.add (.iv 0) (.il 1)))] [(.not (.tb (.get .bool 2) (.cv 0) (.iv 0) (.il 0))), (.lt (.iv 0) (.tb .len (.cv 0) (.il 0) (.il 0))), (.le (.iv 0) (.tb .len (.cv 0) (.il 0) (.il 0))), (.le (.iv 1) (.iv 0))]), (.out 2 (.exit 0) [(.not (.lt (.iv 0) (.tb .len (.cv 0) (.il 0) (.il 0)))), (.le (.iv 0) (.tb .len (.cv 0) (.il 0) (.il 0))), (.le (.iv 1) (.iv 0))])] := by kernel_rfl
set_option maxRecDepth 100000 in
theorem mn_fin : smR Try.prog Try.f34 50 (run Try.prog [] 10 400 50 (.code (aft (.exit 0) drP (bodyOf Try.f34))) (lfAt (mn1 Try.prog Try.f34) 2)) = some
    [(.ret (.tup [(.c (.int .i64 (.iv 1))), (.c (.int .i64 (.sub (.tb .len (.cv 0) (.il 0) (.il 0)) (.iv 1))))]) [blO false, wtTb] [(.not (.lt (.iv 0) (.tb .len (.cv 0) (.il 0) (.il 0)))), (.le (.iv 0) (.tb .len (.cv 0) (.il 0) (.il 0))), (.le (.iv 1) (.iv 0))])] := by kernel_rfl

structure LpI (rows : List (List Value)) (a p m : Int) (ρ : Env) : Prop where
  g : ρ.good
  i : ∀ n, n ≠ 0 → n ≠ 1 → ρ.i n = (lsEnv (fun _ _ _ _ => dI 0) rows a p m).i n
  c0 : ρ.c 0 = rows
  j0 : 0 ≤ ρ.i 0
  jn : ρ.i 0 ≤ (rows.length : Int)
section
variable {rows : List (List Value)} {a p m : Int}
theorem LpI.bs (hn : rows.length ≤ 4000) (he : EnOk a p) {ρ : Env} (I : LpI rows a p m ρ) : bdsP ρ lsBs := by
  obtain ⟨a0, a1, p0, p1⟩ := he
  have c0 : (ρ.c 0).length = rows.length := by rw [I.c0]
  refine ⟨?_, ?_, ?_, trivial⟩
  · show (0 : Int) ≤ (((ρ.c 0).length : Nat) : Int) ∧ (((ρ.c 0).length : Nat) : Int) ≤ 4000
    omega
  · show _ ≤ ρ.i 20 ∧ ρ.i 20 ≤ _
    rw [I.i 20 (by decide) (by decide)]
    exact ⟨a0, a1⟩
  · show _ ≤ ρ.i 21 ∧ ρ.i 21 ≤ _
    rw [I.i 21 (by decide) (by decide)]
    exact ⟨p0, p1⟩
theorem LpI.next {ρ : Env} (I : LpI rows a p m ρ) {β : Bn} {u : Nat → Value} {l : List As} (hi : ∀ n, n ≠ 0 → n ≠ 1 → ({ ρ.sub β l with u := u } : Env).i n = ρ.i n) (hv : ({ ρ.sub β l with u := u } : Env).v = ρ.v) (hc : ({ ρ.sub β l with u := u } : Env).c 0 = ρ.c 0)
    (h0 : ({ ρ.sub β l with u := u } : Env).i 0 = ρ.i 0 + 1) (hlt : ρ.i 0 < (rows.length : Int)) : LpI rows a p m { ρ.sub β l with u := u } :=
  ⟨fun i => by rw [hv]; exact I.g i, fun n n0 n1 => (hi n n0 n1).trans (I.i n n0 n1), hc.trans I.c0, by rw [h0]; have := I.j0; omega, by rw [h0]; omega⟩
structure DrI (rows : List (List Value)) (a p m : Int) (ρ : Env) : Prop where
  b : LpI rows a p m ρ
  c1 : ρ.c 1 = dropW a p (rows.take (ρ.i 0).toNat)
  i1 : ρ.i 1 = ((ρ.c 1).length : Int)
theorem DrI.cx (hn : rows.length ≤ 4000) (he : EnOk a p) {ρ : Env} (I : DrI rows a p m ρ) : drCx.ok ρ := by
  have j0 := I.b.j0
  have jn := I.b.jn
  have i1 := I.i1
  have c0 : (ρ.c 0).length = rows.length := by rw [I.b.c0]
  have hc1 : (ρ.c 1).length ≤ rows.length := by
    rw [I.c1]
    refine Nat.le_trans (List.length_filter_le ..) ?_
    rw [List.length_take]
    omega
  refine cxP ⟨?_, ?_, ?_, I.b.bs hn he⟩ ⟨?_, ?_, ?_, trivial⟩
  · show (0 : Int) ≤ ρ.i 0 ∧ ρ.i 0 ≤ 4000
    omega
  · show (0 : Int) ≤ ρ.i 1 ∧ ρ.i 1 ≤ 4000
    omega
  · show (0 : Int) ≤ (((ρ.c 1).length : Nat) : Int) ∧ (((ρ.c 1).length : Nat) : Int) ≤ 4000
    omega
  · rw [t_le]; show ρ.i 0 ≤ (((ρ.c 0).length : Nat) : Int); omega
  · rw [t_le]; show ρ.i 1 ≤ (((ρ.c 1).length : Nat) : Int); omega
  · rw [t_le]; show (((ρ.c 1).length : Nat) : Int) ≤ ρ.i 1; omega
structure MnI (rows : List (List Value)) (a p m : Int) (ρ : Env) : Prop where
  b : LpI rows a p m ρ
  i1 : ρ.i 1 = (halfN (rows.take (ρ.i 0).toNat) : Int)
theorem halfN_le (l : List (List Value)) : halfN l ≤ l.length := List.countP_le_length
theorem MnI.cx (hn : rows.length ≤ 4000) (he : EnOk a p) {ρ : Env} (I : MnI rows a p m ρ) : mnCx.ok ρ := by
  have j0 := I.b.j0
  have jn := I.b.jn
  have i1 := I.i1
  have c0 : (ρ.c 0).length = rows.length := by rw [I.b.c0]
  have hle := halfN_le (rows.take (ρ.i 0).toNat)
  rw [List.length_take] at hle
  refine cxP ⟨?_, ?_, I.b.bs hn he⟩ ⟨?_, ?_, trivial⟩
  · show (0 : Int) ≤ ρ.i 0 ∧ ρ.i 0 ≤ 4000
    omega
  · show (0 : Int) ≤ ρ.i 1 ∧ ρ.i 1 ≤ 4000
    omega
  · rw [t_le]; show ρ.i 0 ≤ (((ρ.c 0).length : Nat) : Int); omega
  · rw [t_le]; show ρ.i 1 ≤ ρ.i 0; omega
theorem ls_md {w : World} {g0 g c : Nat} {rw : Bool} {S : Nat → Prop} (hB : Blk w g0 121 [.int .i64 m, sltV g c rows.length]) (hT : RowT w g c 125 wtLv rows) (he : EnOk a p) (hn : rows.length ≤ 4000) (hne : c ≠ 0 → g0 ≠ g) (hS : rw = true → S g0) :
    Md (lsEnv (fun _ _ _ _ => dI 0) rows a p m) S w (ixB g c g0) 50 (drSt rw) (ixB g c g0) ⟨#[], []⟩ w := by
  refine Sy.Md.init ⟨?_, hT, trivial⟩ ⟨⟨fun _ hr => hne (hr.resolve_left (by simp [wtTb, Bk.nilable, Xt.isTab])), trivial⟩, trivial, trivial⟩ ⟨fun h _ => hS h, fun h => (by cases h), trivial⟩ ⟨ls_bs (F := fun _ _ _ _ => dI 0) (m := m) hn he ⟨fun _ _ => rfl, rfl, rfl, rfl, rfl, rfl⟩, fun t ht => by cases ht⟩ rfl
  show Blk w g0 _ [.int .i64 m, sltZ g c 4 0 rows.length 0]
  rw [sltZ_zero]
  exact hB
/-- A backlog told anew. -/
def BlNew (w : World) (g0 : Nat) (m : Int) (l : List (List Value)) (w' : World) : Prop := ∃ g' c', Blk w' g0 121 [.int .i64 m, sltV g' c' l.length] ∧ RowT w' g' c' 125 wtLv l ∧ (c' = 0 ∨ w.heap.size ≤ g') ∧ Only (· = g0) w w'
set_option maxRecDepth 100000 in
set_option maxHeartbeats 1000000 in
theorem dr_calls {w : World} {g0 g c : Nat} (hB : Blk w g0 121 [.int .i64 m, sltV g c rows.length]) (hT : RowT w g c 125 wtLv rows) (he : EnOk a p) (hn : rows.length ≤ 4000) (hne : c ≠ 0 → g0 ≠ g) :
    Calls Try.prog 70 #[.pointer (some ⟨g0, 0, none⟩), .agg #[.int .u32 a, .int .i64 p]] w (RetP fun v w' => v = .tuple #[] ∧ BlNew w g0 m (dropW a p rows) w') := by
  have hM0 := ls_md (S := (· = g0)) (rw := true) hB hT he hn hne fun _ => rfl
  refine calls_pre (B := ⟨lsEnv (fun _ _ _ _ => dI 0) rows a p m, (· = g0), w, ixB g c g0, 50⟩) (sp := []) (p := drP) (xs := fnA) (s := drSt true) (r := dr0 Try.prog Try.f70) (fun i => rfl) (fun q hq => by cases hq) rfl Try.func70 rfl rfl dr_run0 hM0 ?_ rfl
  refine ⟨?_, trivial⟩
  intro hpc β ac w1 hM1
  show (Sy.sub drP (bodyOf Try.f70)).wp Try.prog _ ac w1
  rw [← dr_loop]
  obtain ⟨fr1, fr2⟩ := Prod.mk.inj dr_free
  obtain ⟨β1, hM2⟩ := Sy.Md.tabSlot hM1 4 60 125 wtLv (show 50 ≤ 60 by decide) fr1 fr2
  have hI1 : ∀ u, DrI rows a p m { (lsEnv (fun _ _ _ _ => dI 0) rows a p m).sub β1 [.i 1 (.il 0), .i 0 (.il 0), .c 1 tn] with u := u } := fun u => by
    refine ⟨⟨fun i => rfl, fun n h0 h1 => ?_, rfl, Int.le_refl 0, show (0 : Int) ≤ _ by omega⟩, ?_, rfl⟩
    · match n with
      | 0 => exact absurd rfl h0
      | 1 => exact absurd rfl h1
      | n + 2 => rfl
    · show [] = dropW a p (rows.take (0 : Int).toNat)
      rfl
  obtain ⟨u, β', hM3⟩ := Sy.Md.enter hM2 dr_match fun u => (hI1 u).cx hn he
  refine loop_wp (w0 := w) (r := dr1 Try.prog Try.f70) rfl dr_run1 (DrI rows a p m) (fun ρ => rows.length - (ρ.i 0).toNat) (fun ρ I => I.b.g) (fun ρ I q hq => by cases hq) (fun ρ I => I.cx hn he) ?_ (hI1 u) hM3
  intro ρ I
  have j0 := I.b.j0
  have jn := I.b.jn
  have c0 := I.b.c0
  have i1 := I.i1
  have h20 : ρ.i 20 = a := I.b.i 20 (by decide) (by decide)
  have h21 : ρ.i 21 = p := I.b.i 21 (by decide) (by decide)
  refine ⟨?_, ?_, ?_, trivial⟩
  all_goals
    intro hpc
    replace hpc : pcs ρ _ := hpc
    simp only [pcs, t_lt, t_le, t_eq, t_not, t_and, i_iv, i_il, i_tl, i_get, c_cv, c0, gI_def, h20, h21, and_true] at hpc
  · intro β u
    have hj : (ρ.i 0).toNat < rows.length := by omega
    have hk := hT.ok _ (getD_mem hj)
    have hno : fromW a p (rows.getD (ρ.i 0).toNat []) = false := by
      unfold fromW
      simp only [decide_eq_false_iff_not]
      exact hpc.1
    have et : (ρ.i 0 + 1).toNat = (ρ.i 0).toNat + 1 := by omega
    have hc1 : ({ ρ.sub β [(.i 1 (.add (.tb .len (.cv 1) (.il 0) (.il 0)) (.il 1))), (.i 0 (.add (.iv 0) (.il 1))), (.c 1 (.tb .app (.cv 1) (rowI (.cv 0) (.iv 0)) (.il 0)))] with u := u } : Env).c 1 = ρ.c 1 ++ [rows.getD (ρ.i 0).toNat []] := by
      show ρ.c 1 ++ [[Value.int .u32 (gI .u32 ((ρ.c 0).getD (ρ.i 0).toNat []) 0), .int .i64 (gI .i64 ((ρ.c 0).getD (ρ.i 0).toNat []) 1), .bool (gB ((ρ.c 0).getD (ρ.i 0).toNat []) 2), .int .i64 (gI .i64 ((ρ.c 0).getD (ρ.i 0).toNat []) 3)]] = _
      rw [c0, ← wt_cells hk]
    refine ⟨⟨I.b.next (fun n h0 h1 => ?_) rfl rfl rfl (by omega), ?_, ?_⟩, ?_⟩
    · match n with
      | 0 => exact absurd rfl h0
      | 1 => exact absurd rfl h1
      | n + 2 => rfl
    · rw [hc1]
      show _ = dropW a p (rows.take (ρ.i 0 + 1).toNat)
      rw [et, dropW_next hj, if_neg (by rw [hno]; decide), I.c1]
    · rw [hc1, List.length_append]
      show (((ρ.c 1).length : Nat) : Int) + 1 = _
      simp
    · show rows.length - (ρ.i 0 + 1).toNat < rows.length - (ρ.i 0).toNat; omega
  · intro β u
    have hj : (ρ.i 0).toNat < rows.length := by omega
    have hyes : fromW a p (rows.getD (ρ.i 0).toNat []) = true := by
      unfold fromW
      simp only [decide_eq_true_eq]
      exact hpc.1
    have et : (ρ.i 0 + 1).toNat = (ρ.i 0).toNat + 1 := by omega
    refine ⟨⟨I.b.next (fun n h0 h1 => ?_) rfl rfl rfl (by omega), ?_, i1⟩, ?_⟩
    · match n with
      | 0 => exact absurd rfl h0
      | n + 1 => rfl
    · show ρ.c 1 = dropW a p (rows.take (ρ.i 0 + 1).toNat)
      rw [et, dropW_next hj, if_pos hyes, List.append_nil]
      exact I.c1
    · show rows.length - (ρ.i 0 + 1).toNat < rows.length - (ρ.i 0).toNat; omega
  · intro β ac w' hM
    have hjn : (ρ.i 0).toNat = rows.length := by omega
    have hc1 := I.c1
    rw [hjn, List.take_length] at hc1
    refine aft_fin (B := ⟨ρ, (· = g0), w, ixB g c g0, 50⟩) I.b.g (fun q hq => by cases hq) rfl (.exit 0) dr_fin ?_ hM
    refine ⟨?_, trivial⟩
    intro hpc2 β2 w2 hH
    have hm1 : (⟨0, 121, [(.int .i64 (.iv 24)), (.slt 60 4 (.il 0) (.iv 1) (.il 0))], true, .none, .no⟩ : Bk) ∈ drHp := List.mem_cons_self ..
    have hm2 : drTb ∈ drHp := List.mem_cons_of_mem _ (List.mem_cons_self ..)
    have hb := hH.hp _ hm1
    have hb : Blk w2 (β2 0) 121 [.int .i64 (ρ.i 24), sltZ (β2 60) (β2 61) 4 0 (ρ.i 1).toNat 0] := hb
    have ht := hH.hp _ hm2
    have ht : RowT w2 (β2 60) (β2 61) 125 wtLv (ρ.c 1) := ht
    have hkl : (ρ.i 1).toNat = (dropW a p rows).length := by rw [← hc1]; omega
    rw [hH.old 0 (show 0 < 50 by decide), sltZ_zero, hkl, I.b.i 24 (by decide) (by decide)] at hb
    rw [hc1] at ht
    refine ⟨rfl, β2 60, β2 61, hb, ht, ?_, hH.only⟩
    by_cases hc : β2 61 = 0
    · exact .inl hc
    · rcases hH.may _ hm2 rfl (.inr hc) with h | h
      · have := hH.ne _ hm1 _ hm2 (by decide) (.inl rfl) (.inr hc)
        have this : β2 0 ≠ β2 60 := this
        rw [hH.old 0 (show 0 < 50 by decide)] at this
        exact absurd (show β2 60 = g0 from h).symm this
      · exact .inr h
set_option maxRecDepth 100000 in
set_option maxHeartbeats 1000000 in
theorem mn_calls {w : World} {g0 g c : Nat} (hB : Blk w g0 121 [.int .i64 m, sltV g c rows.length]) (hT : RowT w g c 125 wtLv rows) (hn : rows.length ≤ 4000) (hne : c ≠ 0 → g0 ≠ g) :
    Calls Try.prog 34 #[.pointer (some ⟨g0, 0, none⟩)] w (RetP fun v w' => v = .tuple #[.int .i64 (halfN rows), .int .i64 ((rows.length : Int) - (halfN rows : Int))] ∧ Below w.heap.size w w') := by
  have he : EnOk 0 0 := ⟨by decide, by decide, by decide, by decide⟩
  have hM0 := ls_md (S := fun _ => False) (rw := false) hB hT he hn hne fun h => (by cases h)
  refine calls_pre (B := ⟨lsEnv (fun _ _ _ _ => dI 0) rows 0 0 m, fun _ => False, w, ixB g c g0, 50⟩) (sp := []) (p := drP) (xs := mnA) (s := drSt false) (r := mn0 Try.prog Try.f34) (fun i => rfl) (fun q hq => by cases hq) rfl Try.func34 rfl rfl mn_run0 hM0 ?_ rfl
  refine ⟨?_, trivial⟩
  intro hpc β ac w1 hM1
  show (Sy.sub drP (bodyOf Try.f34)).wp Try.prog _ ac w1
  rw [← mn_loop]
  have hI1 : ∀ u, MnI rows 0 0 m { (lsEnv (fun _ _ _ _ => dI 0) rows 0 0 m).sub β [.i 1 (.il 0), .i 0 (.il 0)] with u := u } := fun u => by
    refine ⟨⟨fun i => rfl, fun n h0 h1 => ?_, rfl, Int.le_refl 0, show (0 : Int) ≤ _ by omega⟩, ?_⟩
    · match n with
      | 0 => exact absurd rfl h0
      | 1 => exact absurd rfl h1
      | n + 2 => rfl
    · show (0 : Int) = (halfN (rows.take (0 : Int).toNat) : Int)
      rfl
  obtain ⟨u, β', hM3⟩ := Sy.Md.enter hM1 mn_match fun u => (hI1 u).cx hn he
  refine loop_wp (w0 := w) (r := mn1 Try.prog Try.f34) rfl mn_run1 (MnI rows 0 0 m) (fun ρ => rows.length - (ρ.i 0).toNat) (fun ρ I => I.b.g) (fun ρ I q hq => by cases hq) (fun ρ I => I.cx hn he) ?_ (hI1 u) hM3
  intro ρ I
  have j0 := I.b.j0
  have jn := I.b.jn
  have c0 := I.b.c0
  have i1 := I.i1
  refine ⟨?_, ?_, ?_, trivial⟩
  all_goals
    intro hpc
    replace hpc : pcs ρ _ := hpc
    simp only [pcs, t_lt, t_le, t_eq, t_not, t_and, i_iv, i_il, i_tl, i_get, b_get, c_cv, c0, gI_def, gB_def, and_true] at hpc
  · intro β u
    have hj : (ρ.i 0).toNat < rows.length := by omega
    have et : (ρ.i 0 + 1).toNat = (ρ.i 0).toNat + 1 := by omega
    refine ⟨⟨I.b.next (fun n h0 h1 => ?_) rfl rfl rfl (by omega), ?_⟩, ?_⟩
    · match n with
      | 0 => exact absurd rfl h0
      | 1 => exact absurd rfl h1
      | n + 2 => rfl
    · show ρ.i 1 + 1 = (halfN (rows.take (ρ.i 0 + 1).toNat) : Int)
      rw [et, halfN_next hj, if_pos hpc.1, i1]
      simp
    · show rows.length - (ρ.i 0 + 1).toNat < rows.length - (ρ.i 0).toNat; omega
  · intro β u
    have hj : (ρ.i 0).toNat < rows.length := by omega
    have et : (ρ.i 0 + 1).toNat = (ρ.i 0).toNat + 1 := by omega
    refine ⟨⟨I.b.next (fun n h0 h1 => ?_) rfl rfl rfl (by omega), ?_⟩, ?_⟩
    · match n with
      | 0 => exact absurd rfl h0
      | n + 1 => rfl
    · show ρ.i 1 = (halfN (rows.take (ρ.i 0 + 1).toNat) : Int)
      rw [et, halfN_next hj, if_neg hpc.1, i1]
      simp
    · show rows.length - (ρ.i 0 + 1).toNat < rows.length - (ρ.i 0).toNat; omega
  · intro β ac w' hM
    have hjn : (ρ.i 0).toNat = rows.length := by omega
    rw [hjn, List.take_length] at i1
    refine aft_fin (B := ⟨ρ, fun _ => False, w, ixB g c g0, 50⟩) I.b.g (fun q hq => by cases hq) rfl (.exit 0) mn_fin ?_ hM
    refine ⟨?_, trivial⟩
    intro hpc2 β2 w2 hH
    refine ⟨?_, Sy.Only.below_all hH.only⟩
    show Value.tuple #[.int .i64 (ρ.i 1), .int .i64 (((ρ.c 0).length : Int) - ρ.i 1)] = _
    rw [c0, i1]
end
end Go.Proofs.Ytnjpoidpfcfbeaa
