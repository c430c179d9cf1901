/- Who waits to be taken: the loops that look for one (IndexFunc with its closure; the reference's find). -/
import Derived.Test.YtnjpoidpfcfbeaaPt0
import Derived.Test.YtnjpoidpfcfbeaaSyCh
namespace Go.Proofs.Ytnjpoidpfcfbeaa
open Go.RowKit Sy
set_option linter.unusedVariables false
set_option linter.unusedSimpArgs false

def gI (k : IntKind) (r : List Value) (f : Nat) : Int := (getV (.int k) (r.getD f (.bool false))).i
def gB (r : List Value) (f : Nat) : Bool := (getV .bool (r.getD f (.bool false))).b
theorem gI_def (k : IntKind) (r : List Value) (f : Nat) : (getV (.int k) (r.getD f (.bool false))).i = gI k r f := rfl
theorem gB_def (r : List Value) (f : Nat) : (getV .bool (r.getD f (.bool false))).b = gB r f := rfl
theorem gI_bd {k : IntKind} (r : List Value) (f : Nat) : kMin k ≤ gI k r f ∧ gI k r f ≤ kMax k := by
  unfold gI
  cases r.getD f (.bool false) with
  | int l n => exact wrap_bd k n
  | _ => exact (show kMin k ≤ 0 ∧ (0 : Int) ≤ kMax k from ⟨by cases k <;> decide, by cases k <;> decide⟩)
theorem getV_int {k : IntKind} {v : Value} (h : kOK (.int k) v) : Value.int k (getV (.int k) v).i = v := by
  obtain ⟨n, rfl, hw⟩ := h
  obtain ⟨h1, h2⟩ := of_wf hw
  show Value.int k (k.wrap n) = _
  rw [wrap_in h1 h2]
theorem getV_bool {v : Value} (h : kOK .bool v) : Value.bool (getV .bool v).b = v := by
  obtain ⟨n, rfl⟩ := h
  rfl
theorem kAll_cons {k : Kd} {lv : List Kd} {b : List Value} (h : kAll (k :: lv) b) : ∃ a b', b = a :: b' ∧ kOK k a ∧ kAll lv b' := by
  cases b with
  | nil => exact h.elim
  | cons a b => exact ⟨a, b, rfl, h.1, h.2⟩
theorem kAll_nil {b : List Value} (h : kAll [] b) : b = [] := by
  cases b with
  | nil => rfl
  | cons a b => exact h.elim
/-- The first place at which it is so (-1: none). -/
def ixOf (p : List Value → Bool) : List (List Value) → Int
  | [] => -1
  | a :: l => if p a = true then 0 else if ixOf p l < 0 then -1 else ixOf p l + 1
theorem ixOf_none {p : List Value → Bool} : ∀ {l : List (List Value)}, (∀ j, j < l.length → p (l.getD j []) = false) → ixOf p l = -1
  | [], _ => rfl
  | a :: l, h => by
    have h0 := h 0 (by simp)
    have ih := ixOf_none (p := p) (l := l) fun j hj => h (j + 1) (by simp; omega)
    change p a = false at h0
    simp [ixOf, h0, ih]
theorem ixOf_some {p : List Value → Bool} : ∀ {l : List (List Value)} {i : Nat}, i < l.length → (∀ j, j < i → p (l.getD j []) = false) → p (l.getD i []) = true → ixOf p l = (i : Int)
  | [], i, h, _, _ => absurd h (by simp)
  | a :: l, 0, _, _, h => by
    change p a = true at h
    simp [ixOf, h]
  | a :: l, i + 1, hi, hj, h => by
    have h0 := hj 0 (by omega)
    change p a = false at h0
    have ih := ixOf_some (p := p) (l := l) (i := i) (by simpa using hi) (fun j hj' => hj (j + 1) (by omega)) h
    simp only [ixOf, h0, ih, Bool.false_eq_true, if_false]
    rw [if_neg (by omega)]
    simp

def i64B (n : Nat) : Bd := ⟨.iv n, -9223372036854775808, 9223372036854775807⟩
def u32B (n : Nat) : Bd := ⟨.iv n, 0, 4294967295⟩
def dnLv : List Kd := [.int .i64, .int .u32, .int .i64]
def wtLv : List Kd := [.int .u32, .int .i64, .bool, .int .i64]
def lsBs : List Bd := [⟨tlen (.cv 0), 0, 4000⟩, u32B 20, i64B 21]
def dnTb : Bk := ⟨40, 129, [], false, none, .tab dnLv (.cv 0)⟩
def dnSl : C := .slt 40 3 (.il 0) (tlen (.cv 0)) (.il 0)
def wtTb : Bk := ⟨40, 125, [], false, none, .tab wtLv (.cv 0)⟩
def wtSl : C := .slt 40 4 (.il 0) (tlen (.cv 0)) (.il 0)
def enC : List C := [.int .u32 (.iv 20), .int .i64 (.iv 21)]
def bxE : Bk := ⟨2, 33, enC, false, none, .no⟩
def scP : List Nat := [1, 0, 1, 2]
def ixA (f : FuncId) : List SV := [.one (.c dnSl), .one (.c (.fn f [2]))]
def ixSt : Sy.St := ⟨[], [bxE, dnTb], ⟨lsBs, []⟩, 50⟩
def blO (rw : Bool) : Bk := ⟨0, 121, [.int .i64 (.iv 24), wtSl], rw, none, .no⟩
def fnA : List SV := [.one (.c (.ptr 0 0)), .one (.agg enC)]
def fnSt : Sy.St := ⟨[], [blO false, wtTb], ⟨lsBs, []⟩, 50⟩
def ixL : List Sh := [(.out 0 .ret [(.and (.eq (.tb (.get (.int .u32) 1) (.cv 0) (.iv 0) (.il 0)) (.iv 20)) (.eq (.tb (.get (.int .i64) 2) (.cv 0) (.iv 0) (.il 0)) (.iv 21))), (.lt (.iv 0) (.tb .len (.cv 0) (.il 0) (.il 0))), (.le (.iv 0) (.tb .len (.cv 0) (.il 0) (.il 0)))]), (.back [(.i 0 (.add (.iv 0) (.il 1)))] [(.not (.and (.eq (.tb (.get (.int .u32) 1) (.cv 0) (.iv 0) (.il 0)) (.iv 20)) (.eq (.tb (.get (.int .i64) 2) (.cv 0) (.iv 0) (.il 0)) (.iv 21)))), (.lt (.iv 0) (.tb .len (.cv 0) (.il 0) (.il 0))), (.le (.iv 0) (.tb .len (.cv 0) (.il 0) (.il 0)))]), (.out 2 (.exit 0) [(.not (.lt (.iv 0) (.tb .len (.cv 0) (.il 0) (.il 0)))), (.le (.iv 0) (.tb .len (.cv 0) (.il 0) (.il 0)))])]
def fnL : List Sh := [(.out 0 .ret [(.and (.eq (.tb (.get (.int .u32) 0) (.cv 0) (.iv 0) (.il 0)) (.iv 20)) (.eq (.tb (.get (.int .i64) 1) (.cv 0) (.iv 0) (.il 0)) (.iv 21))), (.lt (.iv 0) (.tb .len (.cv 0) (.il 0) (.il 0))), (.le (.iv 0) (.tb .len (.cv 0) (.il 0) (.il 0)))]), (.back [(.i 0 (.add (.iv 0) (.il 1)))] [(.not (.and (.eq (.tb (.get (.int .u32) 0) (.cv 0) (.iv 0) (.il 0)) (.iv 20)) (.eq (.tb (.get (.int .i64) 1) (.cv 0) (.iv 0) (.il 0)) (.iv 21)))), (.lt (.iv 0) (.tb .len (.cv 0) (.il 0) (.il 0))), (.le (.iv 0) (.tb .len (.cv 0) (.il 0) (.il 0)))]), (.out 2 (.exit 0) [(.not (.lt (.iv 0) (.tb .len (.cv 0) (.il 0) (.il 0)))), (.le (.iv 0) (.tb .len (.cv 0) (.il 0) (.il 0)))])]
def fnVr : SV := .tup [(.agg [(.int .u32 (.tb (.get (.int .u32) 0) (.cv 0) (.iv 0) (.il 0))), (.int .i64 (.tb (.get (.int .i64) 1) (.cv 0) (.iv 0) (.il 0))), (.bool (.tb (.get .bool 2) (.cv 0) (.iv 0) (.il 0))), (.int .i64 (.tb (.get (.int .i64) 3) (.cv 0) (.iv 0) (.il 0)))]), (.c (.bool (.bl true)))]
def fnVn : SV := .tup [(.agg [(.int .u32 (.il 0)), (.int .i64 (.il 0)), (.bool (.bl false)), (.int .i64 (.il 0))]), (.c (.bool (.bl false)))]
set_option maxRecDepth 100000 in
theorem ix_code : ScanCode Try.prog [] 96 Try.f96 (ixA 97) ixSt scP 8 ixL (.one (.c (.int .i64 (.iv 0)))) (.one (.c (.int .i64 (.il (-1))))) [0] 2 where
  hf := Try.func96
  body := rfl
  tm := rfl
  run0 := by kernel_rfl
  mtch := by kernel_rfl
  loop := by kernel_rfl
  run1 := by kernel_rfl
  rets := by kernel_rfl
  fin := by kernel_rfl
set_option maxRecDepth 100000 in
theorem fn_code : ScanCode Try.prog [] 69 Try.f69 fnA fnSt scP 13 fnL fnVr fnVn [0] 2 where
  hf := Try.func69
  body := rfl
  tm := rfl
  run0 := by kernel_rfl
  mtch := by kernel_rfl
  loop := by kernel_rfl
  run1 := by kernel_rfl
  rets := by kernel_rfl
  fin := by kernel_rfl
/-! What they find. -/
def fromD (a p : Int) (r : List Value) : Bool := decide (gI .u32 r 1 = a ∧ gI .i64 r 2 = p)
def fromW (a p : Int) (r : List Value) : Bool := decide (gI .u32 r 0 = a ∧ gI .i64 r 1 = p)
structure EnOk (a p : Int) : Prop where
  a0 : 0 ≤ a
  a1 : a ≤ 4294967295
  p0 : -9223372036854775808 ≤ p
  p1 : p ≤ 9223372036854775807
def lsEnv (F : Nat → Dn → Dn → Dn → Dn) (rows : List (List Value)) (a p m : Int) : Env := { mkEnv0 [] [] [] [] with
  i := fun n => if n = 20 then a else if n = 21 then p else if n = 24 then m else 0
  c := fun _ => rows
  f := F }
section
variable {F : Nat → Dn → Dn → Dn → Dn} {rows : List (List Value)} {a p m : Int}
theorem ls_bs (hn : rows.length ≤ 4000) (he : EnOk a p) {ρ : Env} (h : But0 (lsEnv F rows a p m) ρ) : Bds ρ lsBs := by
  obtain ⟨a0, a1, p0, p1⟩ := he
  refine bdsP_ok ⟨?_, ?_, ?_, trivial⟩
  · show (0 : Int) ≤ (((ρ.c 0).length : Nat) : Int) ∧ (((ρ.c 0).length : Nat) : Int) ≤ 4000
    rw [h.c]
    show (0 : Int) ≤ ((rows.length : Nat) : Int) ∧ ((rows.length : Nat) : Int) ≤ 4000
    omega
  · show _ ≤ ρ.i 20 ∧ ρ.i 20 ≤ _
    rw [h.i 20 (by decide)]
    exact ⟨a0, a1⟩
  · show _ ≤ ρ.i 21 ∧ ρ.i 21 ≤ _
    rw [h.i 21 (by decide)]
    exact ⟨p0, p1⟩
theorem ix_goals : AllL (scGoal (lsEnv F rows a p m) rows.length (fun j => fromD a p (rows.getD j [])) [0] 2) ixL := by
  refine ⟨?_, ?_, ?_, trivial⟩
  all_goals
    refine ⟨rfl, fun ρ hB h0 hpc => ?_⟩
    replace hpc : pcs ρ _ := hpc
    have hc : ρ.c 0 = rows := by rw [hB.c]; rfl
    have h20 : ρ.i 20 = a := hB.i 20 (by decide)
    have h21 : ρ.i 21 = p := hB.i 21 (by decide)
    simp only [pcs, t_lt, t_le, t_eq, t_not, t_and, t_or, t_bv, i_iv, i_il, i_tl, i_get, b_get, c_cv, hc, gI_def, gB_def, h20, h21, and_true] at hpc
    first
      | (show ¬ _; omega)
      | (refine ⟨by omega, fun _ => ?_⟩
         change fromD a p (rows.getD (ρ.i 0).toNat []) = _
         generalize rows.getD (ρ.i 0).toNat [] = r at hpc ⊢
         unfold fromD
         simp only [decide_eq_true_eq, decide_eq_false_iff_not]
         (try simp_all))
theorem fn_goals : AllL (scGoal (lsEnv F rows a p m) rows.length (fun j => fromW a p (rows.getD j [])) [0] 2) fnL := by
  refine ⟨?_, ?_, ?_, trivial⟩
  all_goals
    refine ⟨rfl, fun ρ hB h0 hpc => ?_⟩
    replace hpc : pcs ρ _ := hpc
    have hc : ρ.c 0 = rows := by rw [hB.c]; rfl
    have h20 : ρ.i 20 = a := hB.i 20 (by decide)
    have h21 : ρ.i 21 = p := hB.i 21 (by decide)
    simp only [pcs, t_lt, t_le, t_eq, t_not, t_and, t_or, t_bv, i_iv, i_il, i_tl, i_get, b_get, c_cv, hc, gI_def, gB_def, h20, h21, and_true] at hpc
    first
      | (show ¬ _; omega)
      | (refine ⟨by omega, fun _ => ?_⟩
         change fromW a p (rows.getD (ρ.i 0).toNat []) = _
         generalize rows.getD (ρ.i 0).toNat [] = r at hpc ⊢
         unfold fromW
         simp only [decide_eq_true_eq, decide_eq_false_iff_not]
         (try simp_all))
def ixB (g c gb : Nat) : Bn := fun l => if l = 40 then g else if l = 41 then c else gb
theorem ix_calls {w : World} {g c gb : Nat} (hT : RowT w g c 129 dnLv rows) (hB : Blk w gb 33 [.int .u32 a, .int .i64 p]) (he : EnOk a p) (hn : rows.length ≤ 4000) (hne : c ≠ 0 → gb ≠ g) :
    Calls Try.prog 96 #[sltV g c rows.length, .func (.func 97) #[] #[.pointer (some ⟨gb, 0, none⟩)]] w (RetP fun v w' => v = .int .i64 (ixOf (fromD a p) rows) ∧ Below w.heap.size w w') := by
  refine scan_calls ix_code (ρ0 := lsEnv (fun _ _ _ _ => dI 0) rows a p 0) (β0 := ixB g c gb) (n := rows.length) (fun i => rfl) (fun _ _ q hq => by cases hq) (fun ρ h => ls_bs hn he h) ?_ hn rfl ix_goals ?_ ?_ ?_
  · exact Sy.Md.init ⟨hB, hT, trivial⟩ ⟨⟨fun _ hr => apart.of rfl rfl (hne (hr.resolve_left (by simp [dnTb, Bk.nilable, Xt.isTab]))), trivial⟩, trivial, trivial⟩ ⟨fun h => (by cases h), fun h => (by cases h), trivial⟩ ⟨ls_bs (F := fun _ _ _ _ => dI 0) (m := 0) hn he ⟨fun _ _ => rfl, rfl, rfl, rfl, rfl, rfl⟩, fun t ht => by cases ht⟩ rfl
  · show _ = (#[sltZ g c 3 0 rows.length 0, _] : Array Value)
    rw [sltZ_zero]
    rfl
  · intro ρ β w' hb hbl h0 hlt hno hyes
    refine ⟨?_, hbl⟩
    show Value.int .i64 (ρ.i 0) = _
    rw [ixOf_some hlt hno hyes]
    congr 1
    omega
  · intro ρ β w' hb hbl hno
    refine ⟨?_, hbl⟩
    show Value.int .i64 (-1) = _
    rw [ixOf_none hno]
/-- What find gives: the row's field (nothing: zero). -/
def fdD (rows : List (List Value)) (a p : Int) (f : Int) : Dn :=
  if ixOf (fromW a p) rows < 0 then dI 0 else
    let r := rows.getD (ixOf (fromW a p) rows).toNat []
    if f = 0 then dI (gI .u32 r 0) else if f = 1 then dI (gI .i64 r 1) else if f = 2 then dB (gB r 2) else dI (gI .i64 r 3)
def fdV (rows : List (List Value)) (a p : Int) : Value := .tuple #[.agg #[.int .u32 (fdD rows a p 0).i, .int .i64 (fdD rows a p 1).i, .bool (fdD rows a p 2).b, .int .i64 (fdD rows a p 3).i], .bool (decide (0 ≤ ixOf (fromW a p) rows))]
theorem fn_calls {w : World} {g0 g c : Nat} (hB : Blk w g0 121 [.int .i64 m, sltV g c rows.length]) (hT : RowT w g c 125 wtLv rows) (he : EnOk a p) (hn : rows.length ≤ 4000) (hne : c ≠ 0 → g0 ≠ g) :
    Calls Try.prog 69 #[.pointer (some ⟨g0, 0, none⟩), .agg #[.int .u32 a, .int .i64 p]] w (RetP fun v w' => v = fdV rows a p ∧ Below w.heap.size w w') := by
  refine scan_calls fn_code (ρ0 := lsEnv (fun _ _ _ _ => dI 0) rows a p m) (β0 := ixB g c g0) (n := rows.length) (fun i => rfl) (fun _ _ q hq => by cases hq) (fun ρ h => ls_bs hn he h) ?_ hn rfl fn_goals ?_ ?_ ?_
  · refine Sy.Md.init ⟨?_, hT, trivial⟩ ⟨⟨fun _ hr => apart.of rfl rfl (hne (hr.resolve_left (by simp [wtTb, Bk.nilable, Xt.isTab]))), trivial⟩, trivial, trivial⟩ ⟨fun h => (by cases h), fun h => (by cases h), trivial⟩ ⟨ls_bs (F := fun _ _ _ _ => dI 0) (m := m) hn he ⟨fun _ _ => rfl, rfl, rfl, rfl, rfl, rfl⟩, fun t ht => by cases ht⟩ rfl
    show Blk w g0 _ [.int .i64 m, sltZ g c 4 0 rows.length 0]
    rw [sltZ_zero]
    exact hB
  · rfl
  · intro ρ β w' hb hbl h0 hlt hno hyes
    refine ⟨?_, hbl⟩
    have hi := ixOf_some hlt hno hyes
    have hc : ρ.c 0 = rows := by rw [hb.c]; rfl
    show Value.tuple #[.agg #[.int .u32 (gI .u32 ((ρ.c 0).getD (ρ.i 0).toNat []) 0), .int .i64 (gI .i64 ((ρ.c 0).getD (ρ.i 0).toNat []) 1), .bool (gB ((ρ.c 0).getD (ρ.i 0).toNat []) 2), .int .i64 (gI .i64 ((ρ.c 0).getD (ρ.i 0).toNat []) 3)], .bool true] = _
    unfold fdV fdD
    rw [hi, hc, decide_eq_true (p := (0 : Int) ≤ ((ρ.i 0).toNat : Int)) (by omega)]
    simp only [if_neg (show ¬ (((ρ.i 0).toNat : Nat) : Int) < 0 by omega), Int.toNat_natCast]
    rfl
  · intro ρ β w' hb hbl hno
    refine ⟨?_, hbl⟩
    show Value.tuple #[.agg #[.int .u32 0, .int .i64 0, .bool false, .int .i64 0], .bool false] = _
    unfold fdV fdD
    rw [ixOf_none hno]
    rfl
end
end Go.Proofs.Ytnjpoidpfcfbeaa
