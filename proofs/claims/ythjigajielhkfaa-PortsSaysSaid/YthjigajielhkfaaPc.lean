/- Bounds that clash, owners' bounds: what the loops that look for them find. -/
import Derived.Test.YthjigajielhkfaaPc0
namespace Go.Proofs.Ythjigajielhkfaa
open Go.RowKit Sy
set_option linter.unusedVariables false
set_option linter.unusedSimpArgs false

def gI (k : IntKind) (r : List Value) (f : Nat) : Int := (getV (.int k) (r.getD f (.bool false))).i
def gB (r : List Value) (f : Nat) : Bool := (getV .bool (r.getD f (.bool false))).b
theorem gI_def (k : IntKind) (r : List Value) (f : Nat) : (getV (.int k) (r.getD f (.bool false))).i = gI k r f := rfl
theorem gB_def (r : List Value) (f : Nat) : (getV .bool (r.getD f (.bool false))).b = gB r f := rfl
/-- Do two bounds clash? -/
def clF (a b : List Value) : Bool := decide (gI .i64 a 0 = gI .i64 b 0 ∧ gI .i64 a 2 = gI .i64 b 2 ∧ (gI .u32 a 3 = gI .u32 b 3 ∧ gI .i64 a 4 = gI .i64 b 4) ∧ (gI .u32 a 1 = gI .u32 b 1 ∨ gI .u32 a 1 = 0 ∨ gI .u32 b 1 = 0) ∧ ¬ (gB a 5 = true ∧ gB b 5 = true ∧ gI .u32 a 1 = gI .u32 b 1 ∧ gI .i64 b 4 = 0))
def owF (o : Int) (a : List Value) : Bool := decide (gI .i64 a 6 = o)
/-- The letters: of a bound b (20 to 26), of a table (0). -/
def bdEnv (F : Nat → Dn → Dn → Dn → Dn) (rows : List (List Value)) (b : List Value) : Env := { mkEnv [] [] [] [] with
  i := fun n => if n = 20 then gI .i64 b 0 else if n = 21 then gI .u32 b 1 else if n = 22 then gI .i64 b 2 else if n = 23 then gI .u32 b 3 else if n = 24 then gI .i64 b 4 else if n = 26 then gI .i64 b 6 else 0
  b := fun _ => gB b 5
  c := fun _ => rows
  f := F }
theorem gI_bd {k : IntKind} (r : List Value) (f : Nat) : kMin k ≤ gI k r f ∧ gI k r f ≤ kMax k := by
  unfold gI
  cases r.getD f (.bool false) with
  | int l n => exact wrap_bd k n
  | _ => exact (show kMin k ≤ 0 ∧ (0 : Int) ≤ kMax k from ⟨by cases k <;> decide, by cases k <;> decide⟩)
theorem bd_bs {F : Nat → Dn → Dn → Dn → Dn} {rows : List (List Value)} {b : List Value} (hn : rows.length ≤ 4000) {ρ : Env} (h : But0 (bdEnv F rows b) ρ) : Bds ρ bdBs := by
  intro x hx
  change x ∈ [_, _, _, _, _, _, _] at hx
  simp only [List.mem_cons, List.not_mem_nil, or_false] at hx
  rcases hx with rfl | rfl | rfl | rfl | rfl | rfl | rfl
  · show (0 : Int) ≤ (((ρ.c 0).length : Nat) : Int) ∧ (((ρ.c 0).length : Nat) : Int) ≤ 4000
    rw [h.c]
    show (0 : Int) ≤ ((rows.length : Nat) : Int) ∧ ((rows.length : Nat) : Int) ≤ 4000
    omega
  · show _ ≤ ρ.i 20 ∧ ρ.i 20 ≤ _
    rw [h.i 20 (by decide)]
    exact gI_bd (k := .i64) b 0
  · show _ ≤ ρ.i 21 ∧ ρ.i 21 ≤ _
    rw [h.i 21 (by decide)]
    exact gI_bd (k := .u32) b 1
  · show _ ≤ ρ.i 22 ∧ ρ.i 22 ≤ _
    rw [h.i 22 (by decide)]
    exact gI_bd (k := .i64) b 2
  · show _ ≤ ρ.i 23 ∧ ρ.i 23 ≤ _
    rw [h.i 23 (by decide)]
    exact gI_bd (k := .u32) b 3
  · show _ ≤ ρ.i 24 ∧ ρ.i 24 ≤ _
    rw [h.i 24 (by decide)]
    exact gI_bd (k := .i64) b 4
  · show _ ≤ ρ.i 26 ∧ ρ.i 26 ≤ _
    rw [h.i 26 (by decide)]
    exact gI_bd (k := .i64) b 6
theorem getV_int {k : IntKind} {v : Value} (h : kOK (.int k) v) : Value.int k (getV (.int k) v).i = v := by
  obtain ⟨n, rfl, hw⟩ := h
  obtain ⟨h1, h2⟩ := of_wf hw
  show Value.int k (k.wrap n) = _
  rw [wrap_in h1 h2]
theorem getV_bool {v : Value} (h : kOK .bool v) : Value.bool (getV .bool v).b = v := by
  obtain ⟨n, rfl⟩ := h
  rfl
theorem kAll_cons {k : Kd} {lv : List Kd} {b : List Value} (h : kAll (k :: lv) b) : ∃ a b', b = a :: b' ∧ kOK k a ∧ kAll lv b' := by
  cases b with
  | nil => exact h.elim
  | cons a b => exact ⟨a, b, rfl, h.1, h.2⟩
theorem kAll_nil {b : List Value} (h : kAll [] b) : b = [] := by
  cases b with
  | nil => rfl
  | cons a b => exact h.elim
/-- A bound by its cells. -/
theorem bd_cells {b : List Value} (h : kAll bdLv b) : b = [.int .i64 (gI .i64 b 0), .int .u32 (gI .u32 b 1), .int .i64 (gI .i64 b 2), .int .u32 (gI .u32 b 3), .int .i64 (gI .i64 b 4), .bool (gB b 5), .int .i64 (gI .i64 b 6)] := by
  unfold bdLv at h
  obtain ⟨a0, b, rfl, h0, h⟩ := kAll_cons h
  obtain ⟨a1, b, rfl, h1, h⟩ := kAll_cons h
  obtain ⟨a2, b, rfl, h2, h⟩ := kAll_cons h
  obtain ⟨a3, b, rfl, h3, h⟩ := kAll_cons h
  obtain ⟨a4, b, rfl, h4, h⟩ := kAll_cons h
  obtain ⟨a5, b, rfl, h5, h⟩ := kAll_cons h
  obtain ⟨a6, b, rfl, h6, h⟩ := kAll_cons h
  have := kAll_nil h
  subst this
  have e0 : Value.int .i64 (gI .i64 [a0, a1, a2, a3, a4, a5, a6] 0) = a0 := getV_int h0
  have e1 : Value.int .u32 (gI .u32 [a0, a1, a2, a3, a4, a5, a6] 1) = a1 := getV_int h1
  have e2 : Value.int .i64 (gI .i64 [a0, a1, a2, a3, a4, a5, a6] 2) = a2 := getV_int h2
  have e3 : Value.int .u32 (gI .u32 [a0, a1, a2, a3, a4, a5, a6] 3) = a3 := getV_int h3
  have e4 : Value.int .i64 (gI .i64 [a0, a1, a2, a3, a4, a5, a6] 4) = a4 := getV_int h4
  have e5 : Value.bool (gB [a0, a1, a2, a3, a4, a5, a6] 5) = a5 := getV_bool h5
  have e6 : Value.int .i64 (gI .i64 [a0, a1, a2, a3, a4, a5, a6] 6) = a6 := getV_int h6
  rw [e0, e1, e2, e3, e4, e5, e6]
/-- A block and a table, read only. -/
theorem md_two {ρ : Env} {β : Bn} {w : World} {b1 : Bk} {cx : Cx} {nx : Nat} (h1 : BkOk ρ β w b1) (h2 : RowT w (β 40) (β 41) 50 bdLv (ρ.c 0)) (hne : β 41 ≠ 0 → β b1.l ≠ β 40) (hrw : b1.rw = false) (hcx : cx.ok ρ) : Md ρ (fun _ => False) w β 0 ⟨[], [b1, bdTb], cx, nx⟩ β ⟨#[], []⟩ w := by
  refine ⟨rfl, fun x hx => ?_, fun x hx y hy hxy hrx hry => ?_, fun x hx hw _ => ?_, hcx, Only.refl _ _, fun _ _ => rfl⟩
  · change x ∈ [_, _] at hx
    simp only [List.mem_cons, List.not_mem_nil, or_false] at hx
    rcases hx with rfl | rfl
    · exact h1
    · exact h2
  · change x ∈ [_, _] at hx
    change y ∈ [_, _] at hy
    simp only [List.mem_cons, List.not_mem_nil, or_false] at hx hy
    rcases hx with rfl | rfl <;> rcases hy with rfl | rfl
    · exact absurd rfl hxy
    · exact hne (hry.resolve_left (by simp [bdTb, Bk.nilable, Xt.isTab]))
    · exact (hne (hrx.resolve_left (by simp [bdTb, Bk.nilable, Xt.isTab]))).symm
    · exact absurd rfl hxy
  · change x ∈ [_, _] at hx
    simp only [List.mem_cons, List.not_mem_nil, or_false] at hx
    rcases hx with rfl | rfl
    · rw [hrw] at hw; cases hw
    · cases hw
section
variable {F : Nat → Dn → Dn → Dn → Dn} {rows : List (List Value)} {b : List Value}
theorem ixc_goals : AllL (scGoal (bdEnv F rows b) rows.length (fun j => clF (rows.getD j []) b) ixcK 14) ixcL := by
  refine ⟨?_, ?_, ?_, ?_, ?_, ?_, ?_, ?_, ?_, ?_, ?_, ?_, ?_, ?_, ?_, trivial⟩
  all_goals
    refine ⟨rfl, fun ρ hB h0 hpc => ?_⟩
    replace hpc : pcs ρ _ := hpc
    have hc : ρ.c 0 = rows := by rw [hB.c]; rfl
    have h20 : ρ.i 20 = gI .i64 b 0 := hB.i 20 (by decide)
    have h21 : ρ.i 21 = gI .u32 b 1 := hB.i 21 (by decide)
    have h22 : ρ.i 22 = gI .i64 b 2 := hB.i 22 (by decide)
    have h23 : ρ.i 23 = gI .u32 b 3 := hB.i 23 (by decide)
    have h24 : ρ.i 24 = gI .i64 b 4 := hB.i 24 (by decide)
    have h25 : ρ.b 25 = gB b 5 := by rw [hB.b]; rfl
    simp only [pcs, t_lt, t_le, t_eq, t_not, t_and, t_or, t_bv, i_iv, i_il, i_tl, i_get, b_get, c_cv, hc, gI_def, gB_def, h20, h21, h22, h23, h24, h25, and_true] at hpc
    first
      | (show ¬ _; omega)
      | (refine ⟨by omega, fun _ => ?_⟩
         change clF (rows.getD (ρ.i 0).toNat []) b = _
         generalize rows.getD (ρ.i 0).toNat [] = a at hpc ⊢
         clear hB h0 hc h20 h21 h22 h23 h24 h25
         unfold clF
         simp only [decide_eq_true_eq, decide_eq_false_iff_not]
         (try simp_all) <;> omega)
theorem cl_goals : AllL (scGoal (bdEnv F rows b) rows.length (fun j => clF (rows.getD j []) b) clK 40) clL := by
  refine ⟨?_, ?_, ?_, ?_, ?_, ?_, ?_, ?_, ?_, ?_, ?_, ?_, ?_, ?_, ?_, ?_, ?_, ?_, ?_, ?_, ?_, ?_, ?_, ?_, ?_, ?_, ?_, ?_, ?_, ?_, ?_, ?_, ?_, ?_, ?_, ?_, ?_, ?_, ?_, ?_, ?_, trivial⟩
  all_goals
    refine ⟨rfl, fun ρ hB h0 hpc => ?_⟩
    replace hpc : pcs ρ _ := hpc
    have hc : ρ.c 0 = rows := by rw [hB.c]; rfl
    have h20 : ρ.i 20 = gI .i64 b 0 := hB.i 20 (by decide)
    have h21 : ρ.i 21 = gI .u32 b 1 := hB.i 21 (by decide)
    have h22 : ρ.i 22 = gI .i64 b 2 := hB.i 22 (by decide)
    have h23 : ρ.i 23 = gI .u32 b 3 := hB.i 23 (by decide)
    have h24 : ρ.i 24 = gI .i64 b 4 := hB.i 24 (by decide)
    have h25 : ρ.b 25 = gB b 5 := by rw [hB.b]; rfl
    simp only [pcs, t_lt, t_le, t_eq, t_not, t_and, t_or, t_bv, i_iv, i_il, i_tl, i_get, b_get, c_cv, hc, gI_def, gB_def, h20, h21, h22, h23, h24, h25, and_true] at hpc
    first
      | (show ¬ _; omega)
      | (refine ⟨by omega, fun _ => ?_⟩
         change clF (rows.getD (ρ.i 0).toNat []) b = _
         generalize rows.getD (ρ.i 0).toNat [] = a at hpc ⊢
         clear hB h0 hc h20 h21 h22 h23 h24 h25
         unfold clF
         simp only [decide_eq_true_eq, decide_eq_false_iff_not]
         (try simp_all) <;> omega)
/-- The letters with an owner: 26. -/
def owEnv (F : Nat → Dn → Dn → Dn → Dn) (rows : List (List Value)) (o : Int) : Env := { mkEnv [] [] [] [] with
  i := fun n => if n = 26 then IntKind.i64.wrap o else 0
  c := fun _ => rows
  f := F }
theorem ow_bs {o : Int} (hn : rows.length ≤ 4000) {ρ : Env} (h : But0 (owEnv F rows o) ρ) : Bds ρ bdBs := by
  have h6 := wrap_bd .i64 o
  intro x hx
  change x ∈ [_, _, _, _, _, _, _] at hx
  simp only [List.mem_cons, List.not_mem_nil, or_false] at hx
  rcases hx with rfl | rfl | rfl | rfl | rfl | rfl | rfl
  · show (0 : Int) ≤ (((ρ.c 0).length : Nat) : Int) ∧ (((ρ.c 0).length : Nat) : Int) ≤ 4000
    rw [h.c]
    show (0 : Int) ≤ ((rows.length : Nat) : Int) ∧ ((rows.length : Nat) : Int) ≤ 4000
    omega
  · show _ ≤ ρ.i 20 ∧ ρ.i 20 ≤ _
    rw [h.i 20 (by decide)]
    exact (show (-9223372036854775808 : Int) ≤ 0 ∧ (0 : Int) ≤ 9223372036854775807 from ⟨by decide, by decide⟩)
  · show _ ≤ ρ.i 21 ∧ ρ.i 21 ≤ _
    rw [h.i 21 (by decide)]
    exact (show (0 : Int) ≤ 0 ∧ (0 : Int) ≤ 4294967295 from ⟨by decide, by decide⟩)
  · show _ ≤ ρ.i 22 ∧ ρ.i 22 ≤ _
    rw [h.i 22 (by decide)]
    exact (show (-9223372036854775808 : Int) ≤ 0 ∧ (0 : Int) ≤ 9223372036854775807 from ⟨by decide, by decide⟩)
  · show _ ≤ ρ.i 23 ∧ ρ.i 23 ≤ _
    rw [h.i 23 (by decide)]
    exact (show (0 : Int) ≤ 0 ∧ (0 : Int) ≤ 4294967295 from ⟨by decide, by decide⟩)
  · show _ ≤ ρ.i 24 ∧ ρ.i 24 ≤ _
    rw [h.i 24 (by decide)]
    exact (show (-9223372036854775808 : Int) ≤ 0 ∧ (0 : Int) ≤ 9223372036854775807 from ⟨by decide, by decide⟩)
  · show _ ≤ ρ.i 26 ∧ ρ.i 26 ≤ _
    rw [h.i 26 (by decide)]
    exact h6
theorem ixd_goals {o : Int} (ho : IntKind.i64.wrap o = o) : AllL (scGoal (owEnv F rows o) rows.length (fun j => owF o (rows.getD j [])) ixdK 2) ixdL := by
  refine ⟨?_, ?_, ?_, trivial⟩
  all_goals
    refine ⟨rfl, fun ρ hB h0 hpc => ?_⟩
    replace hpc : pcs ρ _ := hpc
    have hc : ρ.c 0 = rows := by rw [hB.c]; rfl
    have h26 : ρ.i 26 = o := (hB.i 26 (by decide)).trans ho
    simp only [pcs, t_lt, t_le, t_eq, t_not, t_and, t_or, t_bv, i_iv, i_il, i_tl, i_get, b_get, c_cv, hc, gI_def, gB_def, h26, and_true] at hpc
    first
      | (show ¬ _; omega)
      | (refine ⟨by omega, fun _ => ?_⟩
         change owF o (rows.getD (ρ.i 0).toNat []) = _
         generalize rows.getD (ρ.i 0).toNat [] = a at hpc ⊢
         unfold owF
         simp only [decide_eq_true_eq, decide_eq_false_iff_not]
         (try simp_all) <;> omega)
/-- The first place at which it is so (-1: none). -/
def ixOf (p : List Value → Bool) : List (List Value) → Int
  | [] => -1
  | a :: l => if p a = true then 0 else if ixOf p l < 0 then -1 else ixOf p l + 1
theorem ixOf_none {p : List Value → Bool} : ∀ {l : List (List Value)}, (∀ j, j < l.length → p (l.getD j []) = false) → ixOf p l = -1
  | [], _ => rfl
  | a :: l, h => by
    have h0 := h 0 (by simp)
    have ih := ixOf_none (p := p) (l := l) fun j hj => h (j + 1) (by simp; omega)
    change p a = false at h0
    simp [ixOf, h0, ih]
theorem ixOf_some {p : List Value → Bool} : ∀ {l : List (List Value)} {i : Nat}, i < l.length → (∀ j, j < i → p (l.getD j []) = false) → p (l.getD i []) = true → ixOf p l = (i : Int)
  | [], i, h, _, _ => absurd h (by simp)
  | a :: l, 0, _, _, h => by
    change p a = true at h
    simp [ixOf, h]
  | a :: l, i + 1, hi, hj, h => by
    have h0 := hj 0 (by omega)
    change p a = false at h0
    have ih := ixOf_some (p := p) (l := l) (i := i) (by simpa using hi) (fun j hj' => hj (j + 1) (by omega)) h
    simp only [ixOf, h0, ih, Bool.false_eq_true, if_false]
    rw [if_neg (by omega)]
    simp
theorem ixOf_any {p : List Value → Bool} : ∀ {l : List (List Value)}, decide (0 ≤ ixOf p l) = l.any p
  | [] => rfl
  | a :: l => by
    have ih := ixOf_any (p := p) (l := l)
    rw [List.any_cons, ← ih]
    cases h : p a with
    | true => simp [ixOf, h]
    | false =>
      simp only [ixOf, h, Bool.false_eq_true, if_false, Bool.false_or]
      by_cases h2 : ixOf p l < 0
      · rw [if_pos h2]; simp; omega
      · rw [if_neg h2]; simp; omega
theorem any_true {p : List Value → Bool} {l : List (List Value)} {i : Nat} (hi : i < l.length) (h : p (l.getD i []) = true) : l.any p = true := List.any_eq_true.2 ⟨_, getD_mem hi, h⟩
theorem any_false {p : List Value → Bool} {l : List (List Value)} (h : ∀ j, j < l.length → p (l.getD j []) = false) : l.any p = false := by
  rw [List.any_eq_false]
  intro r hr
  obtain ⟨j, hj, rfl⟩ := List.getElem_of_mem hr
  have := h j hj
  rw [List.getD, List.getElem?_eq_getElem hj] at this
  change p l[j] = false at this
  rw [this]
  decide
/-- IndexFunc with that closure over a box finds the first place. -/
def IxRuns (P : Program) (fi cl : FuncId) (tyB : TypeId) (lvB : List Kd) (test : List Value → List Value → Bool) : Prop := ∀ {w : World} {g c : Nat} {rows : List (List Value)} {gb : Nat} {b : List Value}, RowT w g c 50 bdLv rows → Blk w gb tyB b → kAll lvB b → rows.length ≤ 4000 → (c ≠ 0 → gb ≠ g) →
  Calls P fi #[sltV g c rows.length, .func (.func cl) #[] #[.pointer (some ⟨gb, 0, none⟩)]] w (RetP fun v w' => v = .int .i64 (ixOf (test b) rows) ∧ Below w.heap.size w w')
def ixB (g c gb : Nat) : Bn := fun l => if l = 40 then g else if l = 41 then c else gb
theorem ixc_runs : IxRuns Try.prog 190 192 50 bdLv (fun b a => clF a b) := by
  intro w g c rows gb b hT hB hk hn hne
  have hcs : denL (bdEnv (fun _ _ _ _ => dI 0) rows b) (ixB g c gb) bdC = b := (bd_cells hk).symm
  refine scan_calls ixc_code (ρ0 := bdEnv (fun _ _ _ _ => dI 0) rows b) (β0 := ixB g c gb) (n := rows.length) (fun i => rfl) (fun _ _ q hq => by cases hq) (fun ρ h => bd_bs hn h) ?_ hn rfl ixc_goals ?_ ?_ ?_
  · refine md_two ?_ hT (fun h => hne h) rfl ⟨bd_bs hn ⟨fun _ _ => rfl, rfl, rfl, rfl, rfl, rfl⟩, fun t ht => by cases ht⟩
    show Blk w gb _ (denL _ _ bdC)
    rw [hcs]
    exact hB
  · show _ = (#[sltZ g c 7 0 rows.length 0, _] : Array Value)
    rw [sltZ_zero]
    rfl
  · intro ρ β w' hb hbl h0 hlt hno hyes
    refine ⟨?_, hbl⟩
    show Value.int .i64 (ρ.i 0) = _
    rw [ixOf_some hlt hno hyes]
    congr 1
    omega
  · intro ρ β w' hb hbl hno
    refine ⟨?_, hbl⟩
    show Value.int .i64 (-1) = _
    rw [ixOf_none hno]
theorem ixd_runs : IxRuns Try.prog 190 176 3 [.int .i64] (fun b a => owF (gI .i64 b 0) a) := by
  intro w g c rows gb b hT hB hk hn hne
  obtain ⟨v, b, rfl, hv, hk⟩ := kAll_cons hk
  have := kAll_nil hk
  subst this
  have hgv : gI .i64 [v] 0 = (getV (.int .i64) v).i := rfl
  have hw : IntKind.i64.wrap (gI .i64 [v] 0) = gI .i64 [v] 0 := wrap_in (gI_bd (k := .i64) [v] 0).1 (gI_bd (k := .i64) [v] 0).2
  have hcs : denL (owEnv (fun _ _ _ _ => dI 0) rows (gI .i64 [v] 0)) (ixB g c gb) [.int .i64 (.iv 26)] = [v] := by
    show [Value.int .i64 (IntKind.i64.wrap (gI .i64 [v] 0))] = _
    rw [hw, hgv, getV_int hv]
  refine scan_calls ixd_code (ρ0 := owEnv (fun _ _ _ _ => dI 0) rows (gI .i64 [v] 0)) (β0 := ixB g c gb) (n := rows.length) (fun i => rfl) (fun _ _ q hq => by cases hq) (fun ρ h => ow_bs hn h) ?_ hn rfl (ixd_goals hw) ?_ ?_ ?_
  · refine md_two ?_ hT (fun h => hne h) rfl ⟨ow_bs hn ⟨fun _ _ => rfl, rfl, rfl, rfl, rfl, rfl⟩, fun t ht => by cases ht⟩
    show Blk w gb _ (denL _ _ [.int .i64 (.iv 26)])
    rw [hcs]
    exact hB
  · show _ = (#[sltZ g c 7 0 rows.length 0, _] : Array Value)
    rw [sltZ_zero]
    rfl
  · intro ρ β w' hb hbl h0 hlt hno hyes
    refine ⟨?_, hbl⟩
    show Value.int .i64 (ρ.i 0) = _
    rw [ixOf_some hlt hno hyes]
    congr 1
    omega
  · intro ρ β w' hb hbl hno
    refine ⟨?_, hbl⟩
    show Value.int .i64 (-1) = _
    rw [ixOf_none hno]
/-- clashes says whether a bound clashes with one of the table's. -/
def ClRuns (P : Program) (f : FuncId) (T : TypeId) : Prop := ∀ {w : World} {g0 g c : Nat} {rows : List (List Value)} {b : List Value}, Blk w g0 T [sltV g c rows.length] → RowT w g c 50 bdLv rows → kAll bdLv b → rows.length ≤ 4000 → (c ≠ 0 → g0 ≠ g) →
  Calls P f #[.pointer (some ⟨g0, 0, none⟩), .agg b.toArray] w (RetP fun v w' => v = .bool (rows.any fun a => clF a b) ∧ Below w.heap.size w w')
theorem cl_runs : ClRuns Try.prog 180 147 := by
  intro w g0 g c rows b hB hT hk hn hne
  have hcs : denL (bdEnv (fun _ _ _ _ => dI 0) rows b) (ixB g c g0) bdC = b := (bd_cells hk).symm
  refine scan_calls cl_code (ρ0 := bdEnv (fun _ _ _ _ => dI 0) rows b) (β0 := ixB g c g0) (n := rows.length) (fun i => rfl) (fun _ _ q hq => by cases hq) (fun ρ h => bd_bs hn h) ?_ hn rfl cl_goals ?_ ?_ ?_
  · refine md_two ?_ hT (fun h => hne h) rfl ⟨bd_bs hn ⟨fun _ _ => rfl, rfl, rfl, rfl, rfl, rfl⟩, fun t ht => by cases ht⟩
    show Blk w g0 _ [sltZ g c 7 0 rows.length 0]
    rw [sltZ_zero]
    exact hB
  · show _ = (#[_, .agg (denL (bdEnv (fun _ _ _ _ => dI 0) rows b) (ixB g c g0) bdC).toArray] : Array Value)
    rw [hcs]
    rfl
  · intro ρ β w' hb hbl h0 hlt hno hyes
    exact ⟨by rw [any_true hlt hyes]; rfl, hbl⟩
  · intro ρ β w' hb hbl hno
    exact ⟨by rw [any_false hno]; rfl, hbl⟩
end
end Go.Proofs.Ythjigajielhkfaa
