/- Cells of rows, as numbers, bools and strings; bounds of letters: small aids, free of the program's names. -/
import Derived.Test.YtnmfmjlpfhdgeaaPt0
import Derived.Test.YtnmfmjlpfhdgeaaSyCh
import Derived.Test.YtnmfmjlpfhdgeaaSyFo
namespace Go.Proofs.Ytnmfmjlpfhdgeaa
open Go.RowKit Sy
set_option linter.unusedVariables false
set_option linter.unusedSimpArgs false

def gI (k : IntKind) (r : List Value) (f : Nat) : Int := (getV (.int k) (r.getD f (.bool false))).i
def gB (r : List Value) (f : Nat) : Bool := (getV .bool (r.getD f (.bool false))).b
def gS (r : List Value) (f : Nat) : ByteArray := (getV .str (r.getD f (.bool false))).s
theorem gI_def (k : IntKind) (r : List Value) (f : Nat) : (getV (.int k) (r.getD f (.bool false))).i = gI k r f := rfl
theorem gB_def (r : List Value) (f : Nat) : (getV .bool (r.getD f (.bool false))).b = gB r f := rfl
theorem gS_def (r : List Value) (f : Nat) : (getV .str (r.getD f (.bool false))).s = gS r f := rfl
theorem gI_bd {k : IntKind} (r : List Value) (f : Nat) : kMin k ≤ gI k r f ∧ gI k r f ≤ kMax k := by
  unfold gI
  cases r.getD f (.bool false) with
  | int l n => exact wrap_bd k n
  | _ => exact (show kMin k ≤ 0 ∧ (0 : Int) ≤ kMax k from ⟨by cases k <;> decide, by cases k <;> decide⟩)
theorem gI_lit {k : IntKind} {a : Int} {l : List Value} {i : Nat} (h : l.getD i (.bool false) = .int k a) (h0 : kMin k ≤ a) (h1 : a ≤ kMax k) : gI k l i = a := by
  unfold gI
  rw [h]
  exact wrap_in h0 h1
theorem getV_int {k : IntKind} {v : Value} (h : kOK (.int k) v) : Value.int k (getV (.int k) v).i = v := by
  obtain ⟨n, rfl, hw⟩ := h
  obtain ⟨h1, h2⟩ := of_wf hw
  show Value.int k (k.wrap n) = _
  rw [wrap_in h1 h2]
theorem getV_bool {v : Value} (h : kOK .bool v) : Value.bool (getV .bool v).b = v := by
  obtain ⟨n, rfl⟩ := h
  rfl
theorem getV_str {v : Value} (h : kOK .str v) : Value.string (getV .str v).s = v := by
  obtain ⟨n, rfl, hn⟩ := h
  show Value.string (if n.size ≤ 9223372036854775807 then n else none8) = _
  rw [if_pos (show n.size ≤ 9223372036854775807 from hn)]
theorem kAll_cons {k : Kd} {lv : List Kd} {b : List Value} (h : kAll (k :: lv) b) : ∃ a b', b = a :: b' ∧ kOK k a ∧ kAll lv b' := by
  cases b with
  | nil => exact h.elim
  | cons a b => exact ⟨a, b, rfl, h.1, h.2⟩
theorem kAll_nil {b : List Value} (h : kAll [] b) : b = [] := by
  cases b with
  | nil => rfl
  | cons a b => exact h.elim
/-- The first place at which it is so (-1: none). -/
def ixOf (p : List Value → Bool) : List (List Value) → Int
  | [] => -1
  | a :: l => if p a = true then 0 else if ixOf p l < 0 then -1 else ixOf p l + 1
theorem ixOf_none {p : List Value → Bool} : ∀ {l : List (List Value)}, (∀ j, j < l.length → p (l.getD j []) = false) → ixOf p l = -1
  | [], _ => rfl
  | a :: l, h => by
    have h0 := h 0 (by simp)
    have ih := ixOf_none (p := p) (l := l) fun j hj => h (j + 1) (by simp; omega)
    change p a = false at h0
    simp [ixOf, h0, ih]
theorem ixOf_some {p : List Value → Bool} : ∀ {l : List (List Value)} {i : Nat}, i < l.length → (∀ j, j < i → p (l.getD j []) = false) → p (l.getD i []) = true → ixOf p l = (i : Int)
  | [], i, h, _, _ => absurd h (by simp)
  | a :: l, 0, _, _, h => by
    change p a = true at h
    simp [ixOf, h]
  | a :: l, i + 1, hi, hj, h => by
    have h0 := hj 0 (by omega)
    change p a = false at h0
    have ih := ixOf_some (p := p) (l := l) (i := i) (by simpa using hi) (fun j hj' => hj (j + 1) (by omega)) h
    simp only [ixOf, h0, ih, Bool.false_eq_true, if_false]
    rw [if_neg (by omega)]
    simp
def i64B (n : Nat) : Bd := ⟨.iv n, -9223372036854775808, 9223372036854775807⟩
def u32B (n : Nat) : Bd := ⟨.iv n, 0, 4294967295⟩
end Go.Proofs.Ytnmfmjlpfhdgeaa
/- Fragments: what is being put together, told by the fragments that came. -/
namespace Go.Proofs.Ytnmfmjlpfhdgeaa
open Go.RowKit Sy
set_option linter.unusedVariables false
set_option linter.unusedSimpArgs false

abbrev Rws := List (List Value)
def pkLv : List Kd := [.int .u32, .int .u32, .int .i64, .int .i64, .int .i64, .bool, .bool, .int .i64, .str]
def pOff (r : List Value) : Int := gI .i64 r 7
def pBody (r : List Value) : ByteArray := gS r 8
def pMore (r : List Value) : Bool := gB r 6
def pFrom (r : List Value) : Int := 8 * pOff r
def pTo (r : List Value) : Int := pFrom r + ((pBody r).size : Int)
structure GRow (r : List Value) : Prop where
  ok : kAll pkLv r
  o0 : 0 ≤ pOff r
  t1 : pTo r ≤ 4000
  z : pOff r = 0 → 0 < pTo r
theorem GRow.f0 {r : List Value} (h : GRow r) : 0 ≤ pFrom r := by have := h.o0; unfold pFrom; omega
theorem GRow.ft {r : List Value} (h : GRow r) : pFrom r ≤ pTo r := by unfold pTo; omega
def cov (j : Int) (r : List Value) : Bool := decide (pFrom r ≤ j ∧ j < pTo r)
def pByte (r : List Value) (j : Int) : Int := Sy.byteOf (pBody r) (j - pFrom r)
theorem cov_iff {j : Int} {r : List Value} : cov j r = true ↔ pFrom r ≤ j ∧ j < pTo r := by unfold cov; exact decide_eq_true_iff
/-- Two fragments cannot both be: their bytes; their ends. -/
def ftB (p q : List Value) : Bool := (List.range 4000).any fun j => cov (j : Int) p && (cov (j : Int) q && !(decide (pByte p j = pByte q j)))
def ftE (p q : List Value) : Bool := decide ((pMore p = false ∧ pTo p < pTo q) ∨ (pMore q = false ∧ pTo q < pTo p))
def fgt (p q : List Value) : Bool := ftB p q || ftE p q
theorem ftB_no {p q : List Value} (hp : GRow p) (h : ftB p q = false) {j : Int} (h1 : cov j p = true) (h2 : cov j q = true) : pByte p j = pByte q j := by
  have c1 := cov_iff.1 h1
  have := hp.f0
  have := hp.t1
  unfold ftB at h
  rw [List.any_eq_false] at h
  have h := h j.toNat (List.mem_range.2 (by omega))
  rw [show ((j.toNat : Nat) : Int) = j by omega, h1, h2] at h
  simpa using h
theorem ftB_yes {p q : List Value} (hp : GRow p) {j : Int} (h1 : cov j p = true) (h2 : cov j q = true) (h3 : pByte p j ≠ pByte q j) : ftB p q = true := by
  have c1 := cov_iff.1 h1
  have := hp.f0
  have := hp.t1
  unfold ftB
  rw [List.any_eq_true]
  refine ⟨j.toNat, List.mem_range.2 (by omega), ?_⟩
  rw [show ((j.toNat : Nat) : Int) = j by omega, h1, h2]
  simpa using h3
theorem ftE_iff {p q : List Value} : ftE p q = true ↔ (pMore p = false ∧ pTo p < pTo q) ∨ (pMore q = false ∧ pTo q < pTo p) := decide_eq_true_iff
/-- Fragments of one packet. -/
structure GL (l : Rws) : Prop where
  row : ∀ q ∈ l, GRow q
  ft : ∀ p ∈ l, ∀ q ∈ l, fgt p q = false
theorem GL.nil : GL [] := ⟨fun _ h => (by cases h), fun _ h => (by cases h)⟩
theorem fgt_no {p q : List Value} (h : fgt p q = false) : ftB p q = false ∧ ¬ ((pMore p = false ∧ pTo p < pTo q) ∨ (pMore q = false ∧ pTo q < pTo p)) := by
  unfold fgt at h
  rw [Bool.or_eq_false_iff] at h
  exact ⟨h.1, fun e => by rw [ftE_iff.2 e] at h; cases h.2⟩
theorem fgt_mk {p q : List Value} (h1 : ftB p q = false) (h2 : ¬ ((pMore p = false ∧ pTo p < pTo q) ∨ (pMore q = false ∧ pTo q < pTo p))) : fgt p q = false := by
  unfold fgt
  rw [h1, Bool.false_or]
  cases h : ftE p q with
  | false => rfl
  | true => exact absurd (ftE_iff.1 h) h2
theorem fgt_symm {p q : List Value} (hp : GRow p) (hq : GRow q) (h : fgt p q = false) : fgt q p = false := by
  obtain ⟨h1, h2⟩ := fgt_no h
  refine fgt_mk ?_ fun e => h2 e.symm
  cases e : ftB q p with
  | false => rfl
  | true =>
    unfold ftB at e
    rw [List.any_eq_true] at e
    obtain ⟨j, _, e⟩ := e
    simp only [Bool.and_eq_true, Bool.not_eq_true', decide_eq_false_iff_not] at e
    exact absurd (ftB_no hp h1 e.2.1 e.1).symm e.2.2
theorem fgt_self {p : List Value} (hp : GRow p) : fgt p p = false := by
  refine fgt_mk ?_ (by omega)
  cases e : ftB p p with
  | false => rfl
  | true =>
    unfold ftB at e
    rw [List.any_eq_true] at e
    obtain ⟨j, _, e⟩ := e
    simp at e
theorem GL.snoc {l : Rws} (h : GL l) {p : List Value} (hp : GRow p) (hn : l.any (fgt p) = false) : GL (l ++ [p]) := by
  have hn : ∀ q ∈ l, fgt p q = false := fun q hq => by simpa using (List.any_eq_false.1 hn) q hq
  refine ⟨fun q hq => ?_, fun x hx y hy => ?_⟩
  · rcases List.mem_append.1 hq with hq | hq
    · exact h.row q hq
    · rw [List.mem_singleton.1 hq]; exact hp
  · rcases List.mem_append.1 hx with hx | hx <;> rcases List.mem_append.1 hy with hy | hy
    · exact h.ft x hx y hy
    · rw [List.mem_singleton.1 hy]; exact fgt_symm hp (h.row x hx) (hn x hx)
    · rw [List.mem_singleton.1 hx]; exact hn y hy
    · rw [List.mem_singleton.1 hx, List.mem_singleton.1 hy]; exact fgt_self hp
/-! What is told by them. -/
def byAt (l : Rws) (j : Int) : Int := match l.find? (cov j) with
  | some q => pByte q j
  | none => 0
def hsAt (l : Rws) (j : Int) : Bool := l.any (cov j)
def enOf (l : Rws) : Int := match l.find? (fun q => !(pMore q)) with
  | some q => pTo q
  | none => -1
def laOf (l : Rws) : Int := l.foldl (fun m q => max m (pTo q)) 0
def fsOf (l : Rws) : Option (List Value) := l.find? (fun q => decide (pOff q = 0))
theorem pByte_bd (r : List Value) (j : Int) : 0 ≤ pByte r j ∧ pByte r j ≤ 255 := by
  unfold pByte Sy.byteOf
  have : ((pBody r).data.toList.getD (j - pFrom r).toNat 0).toNat < 256 := UInt8.toNat_lt _
  omega
theorem byAt_bd (l : Rws) (j : Int) : 0 ≤ byAt l j ∧ byAt l j ≤ 255 := by
  unfold byAt
  split
  · exact pByte_bd _ _
  · omega
theorem GL.by {l : Rws} (h : GL l) {q : List Value} (hq : q ∈ l) {j : Int} (hc : cov j q = true) : byAt l j = pByte q j := by
  unfold byAt
  split
  · rename_i x hx
    have hx' := List.mem_of_find?_eq_some hx
    have hc' := List.find?_some hx
    exact ftB_no (h.row x hx') (fgt_no (h.ft x hx' q hq)).1 hc' hc
  · rename_i hx
    exact absurd hc (by simpa using (List.find?_eq_none.1 hx) q hq)
theorem hs_iff {l : Rws} {j : Int} : hsAt l j = true ↔ ∃ q ∈ l, cov j q = true := by unfold hsAt; exact List.any_eq_true
theorem GL.en {l : Rws} (h : GL l) {q : List Value} (hq : q ∈ l) (hm : pMore q = false) : enOf l = pTo q := by
  unfold enOf
  split
  · rename_i x hx
    have hx' := List.mem_of_find?_eq_some hx
    have hc' := List.find?_some hx
    have hm' : pMore x = false := by simpa using hc'
    have e1 := (fgt_no (h.ft x hx' q hq)).2
    simp only [hm, hm', true_and] at e1
    omega
  · rename_i hx
    have := (List.find?_eq_none.1 hx) q hq
    rw [hm] at this
    exact absurd rfl this
theorem en_no {l : Rws} (hr : ∀ q ∈ l, GRow q) (h : enOf l < 0) : ∀ q ∈ l, pMore q = true := by
  intro q hq
  unfold enOf at h
  split at h
  · rename_i x hx
    have hx' := List.mem_of_find?_eq_some hx
    have := (hr x hx').f0
    have := (hr x hx').ft
    omega
  · rename_i hx
    simpa using (List.find?_eq_none.1 hx) q hq
theorem en_is {l : Rws} (h : 0 ≤ enOf l) : ∃ q ∈ l, pMore q = false ∧ enOf l = pTo q := by
  unfold enOf at h ⊢
  split at h
  · rename_i x hx
    exact ⟨x, List.mem_of_find?_eq_some hx, by simpa using List.find?_some hx, rfl⟩
  · omega
theorem la_fold (l : Rws) : ∀ m : Int, m ≤ l.foldl (fun m q => max m (pTo q)) m ∧ (∀ q ∈ l, pTo q ≤ l.foldl (fun m q => max m (pTo q)) m) ∧ (l.foldl (fun m q => max m (pTo q)) m = m ∨ ∃ q ∈ l, l.foldl (fun m q => max m (pTo q)) m = pTo q) := by
  induction l with
  | nil => intro m; exact ⟨Int.le_refl _, fun _ h => (by cases h), .inl rfl⟩
  | cons a l ih =>
    intro m
    obtain ⟨h1, h2, h3⟩ := ih (max m (pTo a))
    show m ≤ l.foldl _ (max m (pTo a)) ∧ _ ∧ (l.foldl _ (max m (pTo a)) = m ∨ _)
    refine ⟨by omega, fun q hq => ?_, ?_⟩
    · rcases List.mem_cons.1 hq with rfl | hq
      · show pTo q ≤ l.foldl _ (max m (pTo q))
        omega
      · exact h2 q hq
    · rcases h3 with h3 | ⟨q, hq, h3⟩
      · by_cases hm : m ≤ pTo a
        · exact .inr ⟨a, List.mem_cons_self .., by show l.foldl _ (max m (pTo a)) = _; omega⟩
        · exact .inl (by omega)
      · exact .inr ⟨q, List.mem_cons_of_mem _ hq, h3⟩
theorem la_ge {l : Rws} {q : List Value} (hq : q ∈ l) : pTo q ≤ laOf l := (la_fold l 0).2.1 q hq
theorem la_0 (l : Rws) : 0 ≤ laOf l := (la_fold l 0).1
theorem la_is (l : Rws) : laOf l = 0 ∨ ∃ q ∈ l, laOf l = pTo q := (la_fold l 0).2.2
theorem la_le {l : Rws} (hr : ∀ q ∈ l, GRow q) : laOf l ≤ 4000 := by
  rcases la_is l with h | ⟨q, hq, h⟩
  · omega
  · have := (hr q hq).t1; omega
theorem en_bd {l : Rws} (hr : ∀ q ∈ l, GRow q) : -1 ≤ enOf l ∧ enOf l ≤ 4000 := by
  by_cases h : 0 ≤ enOf l
  · obtain ⟨q, hq, _, e⟩ := en_is h
    have := (hr q hq).t1
    omega
  · unfold enOf at h ⊢
    split at h
    · rename_i x hx
      have hx' := List.mem_of_find?_eq_some hx
      have := (hr x hx').f0
      have := (hr x hx').ft
      omega
    · omega
theorem GL.la_en {l : Rws} (h : GL l) (h0 : 0 ≤ enOf l) : laOf l ≤ enOf l := by
  rcases la_is l with e | ⟨q, hq, e⟩
  · omega
  · obtain ⟨x, hx, hm, e2⟩ := en_is h0
    have := (fgt_no (h.ft x hx q hq)).2
    simp only [hm, true_and] at this
    omega
/-- The tests ahead of the bytes. -/
def ptE (l : Rws) (p : List Value) : Int := if pMore p then enOf l else pTo p
def ptL (l : Rws) (p : List Value) : Int := max (laOf l) (pTo p)
theorem GL.tests {l : Rws} (h : GL l) {p : List Value} (hp : GRow p) : (∀ q ∈ l, ftE p q = false) ↔ ¬ (pMore p = false ∧ 0 ≤ enOf l ∧ enOf l ≠ pTo p) ∧ ¬ (0 ≤ ptE l p ∧ ptE l p < ptL l p) := by
  have f0 := hp.f0
  have ft := hp.ft
  constructor
  · intro hn
    have hn : ∀ q ∈ l, ¬ ((pMore p = false ∧ pTo p < pTo q) ∨ (pMore q = false ∧ pTo q < pTo p)) := fun q hq e => by
      have := hn q hq
      rw [ftE_iff.2 e] at this
      cases this
    refine ⟨fun ⟨h1, h2, h3⟩ => ?_, fun ⟨h1, h2⟩ => ?_⟩
    · obtain ⟨x, hx, hm, e⟩ := en_is h2
      have := hn x hx
      simp only [h1, hm, true_and] at this
      omega
    · unfold ptE at h1 h2
      unfold ptL at h2
      cases hm : pMore p with
      | false =>
        rw [hm] at h1 h2
        rw [if_neg (by decide)] at h1 h2
        rcases la_is l with e | ⟨q, hq, e⟩
        · omega
        · have := hn q hq
          simp only [hm, true_and] at this
          omega
      | true =>
        rw [hm] at h1 h2
        rw [if_pos rfl] at h1 h2
        have := h.la_en h1
        obtain ⟨x, hx, hm', e⟩ := en_is h1
        have := hn x hx
        simp only [hm', true_and] at this
        omega
  · rintro ⟨h1, h2⟩ q hq
    cases e : ftE p q with
    | false => rfl
    | true =>
      exfalso
      have hge := la_ge hq
      unfold ptE ptL at h2
      rcases ftE_iff.1 e with ⟨hm, hlt⟩ | ⟨hm, hlt⟩
      · rw [hm, if_neg (by decide)] at h2
        omega
      · have hen := h.en hq hm
        have := (h.row q hq).f0
        have := (h.row q hq).ft
        cases hm' : pMore p with
        | false => exact h1 ⟨hm', by omega, by omega⟩
        | true =>
          rw [hm', if_pos rfl] at h2
          omega
/-! One more. -/
theorem en_snoc {l : Rws} (h : GL l) {p : List Value} (hp : GRow p) (ho : ¬ (pMore p = false ∧ 0 ≤ enOf l ∧ enOf l ≠ pTo p)) : enOf (l ++ [p]) = ptE l p := by
  unfold ptE
  unfold enOf
  rw [List.find?_append]
  cases hx : l.find? (fun q => !(pMore q)) with
  | some q =>
    have hq := List.mem_of_find?_eq_some hx
    have hm : pMore q = false := by simpa using List.find?_some hx
    have hen := h.en hq hm
    have := (h.row q hq).f0
    have := (h.row q hq).ft
    show pTo q = _
    cases hm' : pMore p with
    | true => rfl
    | false =>
      have : ¬ (enOf l ≠ pTo p) := fun e => ho ⟨hm', by omega, e⟩
      show pTo q = pTo p
      omega
  | none =>
    cases hm' : pMore p with
    | true =>
      rw [show List.find? (fun q => !(pMore q)) [p] = none by simp [hm']]
      rfl
    | false =>
      rw [show List.find? (fun q => !(pMore q)) [p] = some p by simp [hm']]
      rfl
theorem la_snoc (l : Rws) (p : List Value) : laOf (l ++ [p]) = ptL l p := by
  unfold laOf ptL
  rw [List.foldl_append]
  rfl
theorem fs_snoc (l : Rws) (p : List Value) : fsOf (l ++ [p]) = match fsOf l with
    | some q => some q
    | none => if pOff p = 0 then some p else none := by
  unfold fsOf
  rw [List.find?_append]
  cases hx : l.find? (fun q => decide (pOff q = 0)) with
  | some q => rfl
  | none =>
    by_cases h : pOff p = 0
    · simp [h]
    · simp [h]
theorem hs_snoc (l : Rws) (p : List Value) (j : Int) : hsAt (l ++ [p]) j = (hsAt l j || cov j p) := by
  unfold hsAt
  rw [List.any_append]
  simp
theorem by_snoc {l : Rws} {p : List Value} (h : GL (l ++ [p])) (j : Int) : byAt (l ++ [p]) j = if cov j p = true then pByte p j else byAt l j := by
  split
  · rename_i hc
    exact h.by (List.mem_append_right _ (List.mem_singleton.2 rfl)) hc
  · rename_i hc
    unfold byAt
    rw [List.find?_append]
    cases hx : l.find? (cov j) with
    | some q => rfl
    | none =>
      rw [show List.find? (cov j) [p] = none by simp [hc]]
      rfl
end Go.Proofs.Ytnmfmjlpfhdgeaa
/- Fragments: the program's block for what is being put together; put. -/
namespace Go.Proofs.Ytnmfmjlpfhdgeaa
open Go.RowKit Sy
set_option linter.unusedVariables false
set_option linter.unusedSimpArgs false

/-! Rows of one cell each. -/
def rowsF (f : Nat → Value) : Rws := (List.range 4000).map fun j => [f j]
theorem rowsF_len (f : Nat → Value) : (rowsF f).length = 4000 := by unfold rowsF; rw [List.length_map, List.length_range]
theorem rowsF_get (f : Nat → Value) {j : Nat} (hj : j < 4000) : (rowsF f).getD j [] = [f j] := by
  unfold rowsF
  rw [List.getD_eq_getElem?_getD, List.getElem?_map, List.getElem?_range hj]
  rfl
theorem rowsF_ext {f g : Nat → Value} (h : ∀ j, j < 4000 → f j = g j) : rowsF f = rowsF g := by
  unfold rowsF
  apply List.map_congr_left
  intro j hj
  rw [h j (List.mem_range.1 hj)]
theorem rowsF_set (f : Nat → Value) (k : Nat) (v : Value) : (rowsF f).set k [v] = rowsF fun j => if j = k then v else f j := by
  apply list_ext_getD
  · rw [List.length_set, rowsF_len, rowsF_len]
  · intro j hj
    rw [List.length_set, rowsF_len] at hj
    rw [rowsF_get _ hj, List.getD_eq_getElem?_getD, List.getElem?_set, rowsF_len]
    by_cases e : k = j
    · subst e
      rw [if_pos rfl, if_pos hj, if_pos rfl]
      rfl
    · rw [if_neg e, if_neg (Ne.symm e), ← List.getD_eq_getElem?_getD, rowsF_get _ hj]
theorem rowsF_ok {k : Kd} {f : Nat → Value} (h : ∀ j, kOK k (f j)) : ∀ r ∈ rowsF f, kAll [k] r := by
  intro r hr
  obtain ⟨j, _, rfl⟩ := List.mem_map.1 hr
  exact ⟨h j, trivial⟩
def byT (l : Rws) : Rws := rowsF fun j => .int .u8 (byAt l j)
def hsT (l : Rws) : Rws := rowsF fun j => .bool (hsAt l j)
def bTk (l : Rws) (p : List Value) (k : Int) : Rws := rowsF fun j => .int .u8 (if pFrom p ≤ j ∧ (j : Int) < k then pByte p j else byAt l j)
def hTk (l : Rws) (p : List Value) (k : Int) : Rws := rowsF fun j => .bool (hsAt l j || decide (pFrom p ≤ j ∧ (j : Int) < k))
theorem u8_ok {n : Int} (h : 0 ≤ n ∧ n ≤ 255) : kOK (.int .u8) (.int .u8 n) := ⟨_, rfl, wf_of h.1 h.2⟩
theorem byT_ok (l : Rws) : ∀ r ∈ byT l, kAll [.int .u8] r := rowsF_ok fun j => u8_ok (byAt_bd l j)
theorem hsT_ok (l : Rws) : ∀ r ∈ hsT l, kAll [.bool] r := rowsF_ok fun j => ⟨_, rfl⟩
theorem bTk_ok (l : Rws) (p : List Value) (k : Int) : ∀ r ∈ bTk l p k, kAll [.int .u8] r := rowsF_ok fun j => u8_ok (by split; exact pByte_bd _ _; exact byAt_bd _ _)
theorem hTk_ok (l : Rws) (p : List Value) (k : Int) : ∀ r ∈ hTk l p k, kAll [.bool] r := rowsF_ok fun j => ⟨_, rfl⟩
theorem bTk_0 (l : Rws) (p : List Value) : bTk l p (pFrom p) = byT l := rowsF_ext fun j _ => by rw [if_neg (by omega)]
theorem hTk_0 (l : Rws) (p : List Value) : hTk l p (pFrom p) = hsT l := rowsF_ext fun j _ => by rw [decide_eq_false (by omega), Bool.or_false]
theorem bTk_step (l : Rws) (p : List Value) {k : Int} (h0 : pFrom p ≤ k) (h1 : 0 ≤ k) : (bTk l p k).set k.toNat [.int .u8 (pByte p k)] = bTk l p (k + 1) := by
  unfold bTk
  rw [rowsF_set]
  refine rowsF_ext fun j _ => ?_
  by_cases e : j = k.toNat
  · rw [if_pos e, if_pos (by omega), show (j : Int) = k by omega]
  · rw [if_neg e]
    by_cases q : pFrom p ≤ j ∧ (j : Int) < k
    · rw [if_pos q, if_pos (by omega)]
    · rw [if_neg q, if_neg (by omega)]
theorem hTk_step (l : Rws) (p : List Value) {k : Int} (h0 : pFrom p ≤ k) (h1 : 0 ≤ k) : (hTk l p k).set k.toNat [.bool true] = hTk l p (k + 1) := by
  unfold hTk
  rw [rowsF_set]
  refine rowsF_ext fun j _ => ?_
  by_cases e : j = k.toNat
  · rw [if_pos e, decide_eq_true (by omega), Bool.or_true]
  · rw [if_neg e]
    congr 2
    rw [decide_eq_decide]
    omega
theorem bTk_end {l : Rws} {p : List Value} (h : GL (l ++ [p])) : bTk l p (pTo p) = byT (l ++ [p]) := rowsF_ext fun j _ => by
  rw [by_snoc h]
  by_cases q : pFrom p ≤ j ∧ (j : Int) < pTo p
  · rw [if_pos q, if_pos (cov_iff.2 q)]
  · rw [if_neg q, if_neg fun e => q (cov_iff.1 e)]
theorem hTk_end (l : Rws) (p : List Value) : hTk l p (pTo p) = hsT (l ++ [p]) := rowsF_ext fun j _ => by rw [hs_snoc]; rfl
/-! The block. -/
def noPk : List Value := [.int .u32 0, .int .u32 0, .int .i64 0, .int .i64 0, .int .i64 0, .bool false, .bool false, .int .i64 0, .string none8]
def fsC (l : Rws) : List Value := (fsOf l).getD noPk
def whV (age : Int) (l : Rws) : List Value := (byT l).flatten ++ ((hsT l).flatten ++ (.int .i64 (enOf l) :: .int .i64 (laOf l) :: (fsC l ++ [.bool (fsOf l).isSome, .int .i64 age])))
def pkC (h : Nat) : List C := [.int .u32 (.iv h), .int .u32 (.iv (h+1)), .int .i64 (.iv (h+2)), .int .i64 (.iv (h+3)), .int .i64 (.iv (h+4)), .bool (.bv (h+5)), .bool (.bv (h+6)), .int .i64 (.iv (h+7)), .str (.sv (h+8))]
def whC : List C := .int .i64 (.iv 10) :: .int .i64 (.iv 11) :: (pkC 30 ++ [.bool (.bv 12), .int .i64 (.iv 13)])
def whI : List Ins := [⟨0, [.int .u8], 4000, .cv 1⟩, ⟨0, [.bool], 4000, .cv 2⟩]
def whB (rw : Bool) : Bk := ⟨0, 60, whC, rw, none, .arr whI⟩
theorem lay_wh (ρ : Env) (cs : List Value) : layV ρ cs whI = (ρ.c 1).flatten ++ ((ρ.c 2).flatten ++ cs) := by
  show cs.take 0 ++ ((ρ.c 1).flatten ++ ((cs.drop 0).take 0 ++ ((ρ.c 2).flatten ++ (cs.drop 0).drop 0))) = _
  simp
theorem insOk_wh {ρ : Env} (h1 : (ρ.c 1).length = 4000 ∧ ∀ r ∈ ρ.c 1, kAll [.int .u8] r) (h2 : (ρ.c 2).length = 4000 ∧ ∀ r ∈ ρ.c 2, kAll [.bool] r) : insOk ρ whI := by
  intro x hx
  change x ∈ [_, _] at hx
  simp only [List.mem_cons, List.not_mem_nil, or_false] at hx
  rcases hx with rfl | rfl
  · exact h1
  · exact h2
theorem pk_mk {p : List Value} (h : kAll pkLv p) : ∃ a b c d e f g i s, p = [.int .u32 a, .int .u32 b, .int .i64 c, .int .i64 d, .int .i64 e, .bool f, .bool g, .int .i64 i, .string s] ∧ (-9223372036854775808 ≤ i ∧ i ≤ 9223372036854775807) ∧ s.size ≤ 9223372036854775807 := by
  obtain ⟨v0, r0, e0, ⟨a, rfl, _⟩, h0⟩ := kAll_cons h
  obtain ⟨v1, r1, e1, ⟨b, rfl, _⟩, h1⟩ := kAll_cons h0
  obtain ⟨v2, r2, e2, ⟨c, rfl, _⟩, h2⟩ := kAll_cons h1
  obtain ⟨v3, r3, e3, ⟨d, rfl, _⟩, h3⟩ := kAll_cons h2
  obtain ⟨v4, r4, e4, ⟨e, rfl, _⟩, h4⟩ := kAll_cons h3
  obtain ⟨v5, r5, e5, ⟨f, rfl⟩, h5⟩ := kAll_cons h4
  obtain ⟨v6, r6, e6, ⟨g, rfl⟩, h6⟩ := kAll_cons h5
  obtain ⟨v7, r7, e7, ⟨i, rfl, hi⟩, h7⟩ := kAll_cons h6
  obtain ⟨v8, r8, e8, ⟨s, rfl, hs⟩, h8⟩ := kAll_cons h7
  rw [kAll_nil h8] at e8
  subst e8 e7 e6 e5 e4 e3 e2 e1
  exact ⟨a, b, c, d, e, f, g, i, s, e0, of_wf hi, hs⟩
/-- Letters of a packet's cells. -/
structure PkL (ρ : Env) (h : Nat) (p : List Value) : Prop where
  cs : ∀ β, denL ρ β (pkC h) = p
def pkI (p : List Value) (k : Nat) : Int := intAt p k
theorem pk_den {ρ : Env} {h : Nat} {p : List Value} (hp : kAll pkLv p) (e0 : ρ.i h = intAt p 0) (e1 : ρ.i (h+1) = intAt p 1) (e2 : ρ.i (h+2) = intAt p 2) (e3 : ρ.i (h+3) = intAt p 3) (e4 : ρ.i (h+4) = intAt p 4) (e5 : ρ.b (h+5) = boolAt p 5) (e6 : ρ.b (h+6) = boolAt p 6) (e7 : ρ.i (h+7) = intAt p 7) (e8 : ρ.s (h+8) = strAt p 8) (β : Bn) : denL ρ β (pkC h) = p := by
  obtain ⟨a, b, c, d, e, f, g, i, s, rfl, _⟩ := pk_mk hp
  show [Value.int .u32 (ρ.i h), .int .u32 (ρ.i (h+1)), .int .i64 (ρ.i (h+2)), .int .i64 (ρ.i (h+3)), .int .i64 (ρ.i (h+4)), .bool (ρ.b (h+5)), .bool (ρ.b (h+6)), .int .i64 (ρ.i (h+7)), .string (ρ.s (h+8))] = _
  rw [e0, e1, e2, e3, e4, e5, e6, e7, e8]
  rfl
theorem pk_let {ρ : Env} {h : Nat} {p : List Value} (hp : kAll pkLv p) (e : ∀ β, denL ρ β (pkC h) = p) : ρ.b (h+6) = pMore p ∧ ρ.i (h+7) = pOff p ∧ ρ.s (h+8) = pBody p := by
  obtain ⟨a, b, c, d, e', f, g, i, s, rfl, hi, hs⟩ := pk_mk hp
  have e := e fun _ => 0
  change [Value.int .u32 (ρ.i h), .int .u32 (ρ.i (h+1)), .int .i64 (ρ.i (h+2)), .int .i64 (ρ.i (h+3)), .int .i64 (ρ.i (h+4)), .bool (ρ.b (h+5)), .bool (ρ.b (h+6)), .int .i64 (ρ.i (h+7)), .string (ρ.s (h+8))] = _ at e
  simp only [List.cons.injEq, Value.int.injEq, Value.bool.injEq, Value.string.injEq, true_and, and_true] at e
  obtain ⟨_, _, _, _, _, _, e6, e7, e8⟩ := e
  refine ⟨e6, ?_, ?_⟩
  · rw [e7]
    exact (gI_lit rfl hi.1 hi.2).symm
  · rw [e8]
    show _ = (if s.size ≤ 9223372036854775807 then s else none8)
    rw [if_pos hs]
theorem fsC_ok {l : Rws} (h : GL l) : kAll pkLv (fsC l) := by
  unfold fsC
  cases e : fsOf l with
  | none => exact ⟨⟨0, rfl, rfl⟩, ⟨0, rfl, rfl⟩, ⟨0, rfl, rfl⟩, ⟨0, rfl, rfl⟩, ⟨0, rfl, rfl⟩, ⟨_, rfl⟩, ⟨_, rfl⟩, ⟨0, rfl, rfl⟩, ⟨none8, rfl, Nat.zero_le _⟩, trivial⟩
  | some q => exact (h.row q (List.mem_of_find?_eq_some e)).ok
theorem fsC_snoc (l : Rws) (p : List Value) : fsC (l ++ [p]) = if (fsOf l).isSome = false ∧ pOff p = 0 then p else fsC l := by
  unfold fsC
  rw [fs_snoc]
  cases e : fsOf l with
  | some q => rfl
  | none =>
    by_cases h : pOff p = 0
    · simp [h]
    · simp [h]
theorem fsS_snoc (l : Rws) (p : List Value) : (fsOf (l ++ [p])).isSome = ((fsOf l).isSome || decide (pOff p = 0)) := by
  rw [fs_snoc]
  cases e : fsOf l with
  | some q => rfl
  | none =>
    by_cases h : pOff p = 0
    · simp [h]
    · simp [h]
/-! put. -/
def whBs : List Bd := [⟨.iv 10, -1, 4000⟩, ⟨.iv 11, 0, 4000⟩, ⟨.iv 40, 0, 4000⟩, ⟨.len (.sv 28), 0, 4000⟩, ⟨.add (.iv 40) (.len (.sv 28)), 0, 4000⟩]
def ptA : List SV := [.one (.c (.ptr 0 0)), .one (.agg (pkC 20)), .one (.c (.int .i64 (.iv 40)))]
def ptS : Sy.St := ⟨[], [whB true], ⟨whBs, []⟩, 50⟩
def ptP : List Nat := [1, 1, 1, 1, 1, 0, 1, 2]
def ptR0 (P : Program) (fn : Func) : Rs := run P [] 10 400 50 (.code (pre ptP (bodyOf fn))) (enterS fn ptA ptS)
def ptBs2 : List Bd := ⟨.iv 41, 0, 4000⟩ :: ⟨.sub (.iv 41) (.iv 40), 0, 4000⟩ :: whBs
def ptT (P : Program) (fn : Func) : Sy.St := tplK (lfAt (ptR0 P fn) 2) [0, 1, 2, 4, 6] [(7, .one (.c (.int .i64 (.add (.iv 40) (.len (.sv 28)))))), (8, .one (.c (.int .i64 (.iv 41))))] [whB true] ⟨ptBs2, [.le (.iv 40) (.iv 41)]⟩ 60
def ptR1 (P : Program) (fn : Func) : Rs := run P [] 10 400 50 (.code (lpBody (Sy.sub ptP (bodyOf fn)))) (ptT P fn)
def ptR2 (P : Program) (fn : Func) : Rs := run P [] 10 400 50 (.code (aft (.exit 0) ptP (bodyOf fn))) (lfAt (ptR1 P fn) 5)
def ptBk : List As := [.i 41 (.add (.iv 41) (.il 1)), .c 1 (.tb .set (.cv 1) (.iv 41) (.tb (.cons (.int .u8)) (.byte (.sv 28) (.sub (.iv 41) (.iv 40))) (.tb .row (.il 0) (.il 0) (.il 0)) (.il 0))), .c 2 (.tb .set (.cv 2) (.iv 41) (.tb (.cons .bool) (.bl true) (.tb .row (.il 0) (.il 0) (.il 0)) (.il 0)))]
def ptA4 : List As := [.i 41 (.iv 40), .i 10 (.add (.iv 40) (.len (.sv 28))), .i 11 (.ite (.lt (.iv 11) (.add (.iv 40) (.len (.sv 28)))) (.add (.iv 40) (.len (.sv 28))) (.iv 11))]
def ptA6 : List As := [.i 41 (.iv 40), .i 11 (.ite (.lt (.iv 11) (.add (.iv 40) (.len (.sv 28)))) (.add (.iv 40) (.len (.sv 28))) (.iv 11))]
set_option maxRecDepth 100000 in
theorem pt_run0 : shR 50 none (ptR0 Try.prog Try.f13) = some [.out 0 .ret [.not (.eq (.iv 10) (.add (.iv 40) (.len (.sv 28)))), .le (.il 0) (.iv 10), .not (.bv 26)], .out 1 .ret [.lt (.add (.iv 40) (.len (.sv 28))) (.ite (.lt (.iv 11) (.add (.iv 40) (.len (.sv 28)))) (.add (.iv 40) (.len (.sv 28))) (.iv 11)), .eq (.iv 10) (.add (.iv 40) (.len (.sv 28))), .le (.il 0) (.iv 10), .not (.bv 26)], .out 2 .normal [.not (.lt (.add (.iv 40) (.len (.sv 28))) (.ite (.lt (.iv 11) (.add (.iv 40) (.len (.sv 28)))) (.add (.iv 40) (.len (.sv 28))) (.iv 11))), .eq (.iv 10) (.add (.iv 40) (.len (.sv 28))), .le (.il 0) (.iv 10), .not (.bv 26)], .out 3 .ret [.lt (.add (.iv 40) (.len (.sv 28))) (.ite (.lt (.iv 11) (.add (.iv 40) (.len (.sv 28)))) (.add (.iv 40) (.len (.sv 28))) (.iv 11)), .not (.le (.il 0) (.iv 10)), .not (.bv 26)], .out 4 .normal [.not (.lt (.add (.iv 40) (.len (.sv 28))) (.ite (.lt (.iv 11) (.add (.iv 40) (.len (.sv 28)))) (.add (.iv 40) (.len (.sv 28))) (.iv 11))), .not (.le (.il 0) (.iv 10)), .not (.bv 26)], .out 5 .ret [.lt (.iv 10) (.ite (.lt (.iv 11) (.add (.iv 40) (.len (.sv 28)))) (.add (.iv 40) (.len (.sv 28))) (.iv 11)), .le (.il 0) (.iv 10), .bv 26], .out 6 .normal [.not (.lt (.iv 10) (.ite (.lt (.iv 11) (.add (.iv 40) (.len (.sv 28)))) (.add (.iv 40) (.len (.sv 28))) (.iv 11))), .le (.il 0) (.iv 10), .bv 26], .out 7 .normal [.not (.le (.il 0) (.iv 10)), .bv 26]] := by kernel_rfl
set_option maxRecDepth 100000 in
theorem pt_ret0 : retsB Try.prog Try.f13 (ptR0 Try.prog Try.f13) (.one (.c (.bool (.bl false)))) [0, 1, 3, 5] = true := by kernel_rfl
set_option maxRecDepth 100000 in
theorem pt_m : ([2, 4, 6, 7].map fun k => (matchS 50 (ptT Try.prog Try.f13) (lfAt (ptR0 Try.prog Try.f13) k)).map noU) = [some ptA4, some ptA4, some ptA6, some ptA6] := by kernel_rfl
set_option maxRecDepth 100000 in
theorem pt_run1 : shR 50 (some (ptT Try.prog Try.f13)) (ptR1 Try.prog Try.f13) = some [.must (.lt (.sub (.iv 41) (.iv 40)) (.len (.sv 28))) [(.tb (.get .bool 0) (.cv 2) (.iv 41) (.il 0)), .lt (.iv 41) (.add (.iv 40) (.len (.sv 28))), .le (.iv 40) (.iv 41)],
  .out 1 .ret [.not (.eq (.tb (.get (.int .u8) 0) (.cv 1) (.iv 41) (.il 0)) (.byte (.sv 28) (.sub (.iv 41) (.iv 40)))), .lt (.sub (.iv 41) (.iv 40)) (.len (.sv 28)), (.tb (.get .bool 0) (.cv 2) (.iv 41) (.il 0)), .lt (.iv 41) (.add (.iv 40) (.len (.sv 28))), .le (.iv 40) (.iv 41)],
  .back ptBk [.eq (.tb (.get (.int .u8) 0) (.cv 1) (.iv 41) (.il 0)) (.byte (.sv 28) (.sub (.iv 41) (.iv 40))), .lt (.sub (.iv 41) (.iv 40)) (.len (.sv 28)), (.tb (.get .bool 0) (.cv 2) (.iv 41) (.il 0)), .lt (.iv 41) (.add (.iv 40) (.len (.sv 28))), .le (.iv 40) (.iv 41)],
  .must (.lt (.sub (.iv 41) (.iv 40)) (.len (.sv 28))) [.not (.tb (.get .bool 0) (.cv 2) (.iv 41) (.il 0)), .lt (.iv 41) (.add (.iv 40) (.len (.sv 28))), .le (.iv 40) (.iv 41)],
  .back ptBk [.lt (.sub (.iv 41) (.iv 40)) (.len (.sv 28)), .not (.tb (.get .bool 0) (.cv 2) (.iv 41) (.il 0)), .lt (.iv 41) (.add (.iv 40) (.len (.sv 28))), .le (.iv 40) (.iv 41)],
  .out 5 (.exit 0) [.not (.lt (.iv 41) (.add (.iv 40) (.len (.sv 28)))), .le (.iv 40) (.iv 41)]] := by kernel_rfl
set_option maxRecDepth 100000 in
theorem pt_ret1 : retsB Try.prog Try.f13 (ptR1 Try.prog Try.f13) (.one (.c (.bool (.bl false)))) [1] = true := by kernel_rfl
def whCf : List C := .int .i64 (.iv 10) :: .int .i64 (.iv 11) :: (pkC 20 ++ [.bool (.bl true), .int .i64 (.iv 13)])
set_option maxRecDepth 100000 in
theorem pt_run2 : smR Try.prog Try.f13 50 (ptR2 Try.prog Try.f13) = some [.ret (.one (.c (.bool (.bl true)))) [⟨0, 60, whCf, true, none, .arr whI⟩] [.not (.bv 12), .lt (.il 0) (.add (.iv 40) (.len (.sv 28))), .eq (.iv 40) (.il 0), .not (.lt (.iv 41) (.add (.iv 40) (.len (.sv 28)))), .le (.iv 40) (.iv 41)],
  .ret (.one (.c (.bool (.bl true)))) [whB true] [.bv 12, .lt (.il 0) (.add (.iv 40) (.len (.sv 28))), .eq (.iv 40) (.il 0), .not (.lt (.iv 41) (.add (.iv 40) (.len (.sv 28)))), .le (.iv 40) (.iv 41)],
  .ret (.one (.c (.bool (.bl true)))) [whB true] [.not (.lt (.il 0) (.add (.iv 40) (.len (.sv 28)))), .eq (.iv 40) (.il 0), .not (.lt (.iv 41) (.add (.iv 40) (.len (.sv 28)))), .le (.iv 40) (.iv 41)],
  .ret (.one (.c (.bool (.bl true)))) [whB true] [.not (.eq (.iv 40) (.il 0)), .not (.lt (.iv 41) (.add (.iv 40) (.len (.sv 28)))), .le (.iv 40) (.iv 41)]] := by kernel_rfl
set_option maxRecDepth 100000 in
theorem pt_cx : (ptT Try.prog Try.f13).cx = ⟨ptBs2, [.le (.iv 40) (.iv 41)]⟩ := by kernel_rfl
/-- The block of letter 0 is such a block. -/
def arrB (o : Option Bk) : Bool := match o with
  | some ⟨_, ty, _, _, none, .arr _⟩ => Nat.beq ty 60
  | _ => false
theorem arrB_ok {ρ : Env} {S : Nat → Prop} {w0 w : World} {β0 β : Bn} {n0 : Nat} {s : Sy.St} {a : Act} (hM : Md ρ S w0 β0 n0 s β a w) (h : arrB (find 0 s.hp) = true) : ∃ cs, Blk w (β 0) 60 cs := by
  cases hf : find 0 s.hp with
  | none => rw [hf] at h; cases h
  | some b =>
    obtain ⟨hb, hl, _⟩ := Sy.Md.find hM hf
    rw [hf] at h
    unfold arrB at h
    split at h
    · rename_i l ty cs rw ins e
      injection e with e
      subst e
      have hty := Nat.eq_of_beq_eq_true h
      subst hty
      have hb : Blk w (β l) 60 (layV ρ (denL ρ β cs) ins) ∧ insOk ρ ins := hb
      change l = 0 at hl
      subst hl
      exact ⟨_, hb.1⟩
    · cases h
set_option maxRecDepth 100000 in
theorem pt_hp : ([0, 1, 3, 5].all fun k => arrB (find 0 (lfAt (ptR0 Try.prog Try.f13) k).hp)) = true := by kernel_rfl
set_option maxRecDepth 100000 in
theorem pt_hp1 : arrB (find 0 (lfAt (ptR1 Try.prog Try.f13) 1).hp) = true := by kernel_rfl
end Go.Proofs.Ytnmfmjlpfhdgeaa
/- Fragments: put's contract. -/
namespace Go.Proofs.Ytnmfmjlpfhdgeaa
open Go.RowKit Sy
set_option linter.unusedVariables false
set_option linter.unusedSimpArgs false

def ptEnv (l : Rws) (p : List Value) (age : Int) : Env := { mkEnv0 [] [] [] [] with
  i := fun n => if n = 10 then enOf l else if n = 11 then laOf l else if n = 13 then age else if n = 40 then pFrom p else if n < 30 then intAt p (n - 20) else intAt (fsC l) (n - 30)
  b := fun n => if n = 12 then (fsOf l).isSome else if n < 30 then boolAt p (n - 20) else boolAt (fsC l) (n - 30)
  s := fun n => if n < 30 then strAt p (n - 20) else strAt (fsC l) (n - 30)
  c := fun n => if n = 1 then byT l else hsT l }
/-- What the letters stand for (en, la: the block's two numbers; k: how far the bytes are). -/
structure PtI (l : Rws) (p : List Value) (age en la : Int) (ρ : Env) : Prop where
  good : ρ.good
  p20 : ∀ β, denL ρ β (pkC 20) = p
  f30 : ∀ β, denL ρ β (pkC 30) = fsC l
  b12 : ρ.b 12 = (fsOf l).isSome
  i13 : ρ.i 13 = age
  i40 : ρ.i 40 = pFrom p
  i10 : ρ.i 10 = en
  i11 : ρ.i 11 = la
theorem ptE_I {l : Rws} {p : List Value} (hl : GL l) (hp : GRow p) (age : Int) : PtI l p age (enOf l) (laOf l) (ptEnv l p age) :=
  ⟨fun i => rfl, fun β => pk_den (h := 20) hp.ok rfl rfl rfl rfl rfl rfl rfl rfl rfl β, fun β => pk_den (h := 30) (fsC_ok hl) rfl rfl rfl rfl rfl rfl rfl rfl rfl β, rfl, rfl, rfl, rfl, rfl⟩
theorem PtI.bds {l : Rws} {p : List Value} {age en la : Int} {ρ : Env} (I : PtI l p age en la ρ) (hp : GRow p) (he : -1 ≤ en ∧ en ≤ 4000) (ha : 0 ≤ la ∧ la ≤ 4000) : bdsP ρ whBs := by
  have hs : ρ.s 28 = pBody p := (pk_let hp.ok I.p20).2.2
  have f0 := hp.f0
  have t1 := hp.t1
  have ht : pTo p = pFrom p + ((pBody p).size : Int) := rfl
  refine ⟨?_, ?_, ?_, ?_, ?_, trivial⟩
  · show (-1 : Int) ≤ ρ.i 10 ∧ ρ.i 10 ≤ 4000
    rw [I.i10]; exact he
  · show (0 : Int) ≤ ρ.i 11 ∧ ρ.i 11 ≤ 4000
    rw [I.i11]; exact ha
  · show (0 : Int) ≤ ρ.i 40 ∧ ρ.i 40 ≤ 4000
    rw [I.i40]; omega
  · show (0 : Int) ≤ ((ρ.s 28).size : Int) ∧ ((ρ.s 28).size : Int) ≤ 4000
    rw [hs]; omega
  · show (0 : Int) ≤ ρ.i 40 + ((ρ.s 28).size : Int) ∧ ρ.i 40 + ((ρ.s 28).size : Int) ≤ 4000
    rw [hs, I.i40]; omega
structure PtJ (l : Rws) (p : List Value) (age : Int) (ρ : Env) : Prop extends PtI l p age (ptE l p) (ptL l p) ρ where
  c1 : ρ.c 1 = bTk l p (ρ.i 41)
  c2 : ρ.c 2 = hTk l p (ρ.i 41)
  h0 : pFrom p ≤ ρ.i 41
  h1 : ρ.i 41 ≤ pTo p
  no : ∀ j : Int, pFrom p ≤ j → j < ρ.i 41 → hsAt l j = true → byAt l j = pByte p j
section
variable {l : Rws} {p : List Value} {age : Int} {w : World} {g : Nat} {ρ : Env}
theorem ptE_bd (hl : GL l) (hp : GRow p) : -1 ≤ ptE l p ∧ ptE l p ≤ 4000 := by
  unfold ptE
  have := en_bd hl.row
  have := hp.f0
  have := hp.ft
  have := hp.t1
  split <;> omega
theorem ptL_bd (hl : GL l) (hp : GRow p) : 0 ≤ ptL l p ∧ ptL l p ≤ 4000 := by
  unfold ptL
  have := la_0 l
  have := la_le hl.row
  have := hp.t1
  omega
theorem PtJ.cx (hl : GL l) (hp : GRow p) (I : PtJ l p age ρ) : (ptT Try.prog Try.f13).cx.ok ρ := by
  rw [pt_cx]
  have h0 := I.h0
  have h1 := I.h1
  have f0 := hp.f0
  have t1 := hp.t1
  refine cxP ⟨?_, ?_, I.toPtI.bds hp (ptE_bd hl hp) (ptL_bd hl hp)⟩ ⟨?_, trivial⟩
  · show (0 : Int) ≤ ρ.i 41 ∧ ρ.i 41 ≤ 4000
    omega
  · show (0 : Int) ≤ ρ.i 41 - ρ.i 40 ∧ ρ.i 41 - ρ.i 40 ≤ 4000
    rw [I.i40]; omega
  · rw [t_le]
    show ρ.i 40 ≤ ρ.i 41
    rw [I.i40]; omega
theorem wh_start (h : Blk w g 60 (whV age l)) {β : Bn} (h0 : β 0 = g) (I : PtI l p age (enOf l) (laOf l) ρ) (c1 : ρ.c 1 = byT l) (c2 : ρ.c 2 = hsT l) (rw : Bool) : BkOk ρ β w (whB rw) := by
  refine ⟨?_, insOk_wh (by rw [c1]; exact ⟨rowsF_len _, byT_ok l⟩) (by rw [c2]; exact ⟨rowsF_len _, hsT_ok l⟩)⟩
  show Blk w (β 0) 60 (layV ρ (denL ρ β whC) whI)
  rw [lay_wh, h0, c1, c2]
  have : denL ρ β whC = .int .i64 (enOf l) :: .int .i64 (laOf l) :: (fsC l ++ [.bool (fsOf l).isSome, .int .i64 age]) := by
    show Value.int .i64 (ρ.i 10) :: .int .i64 (ρ.i 11) :: denL ρ β (pkC 30 ++ [.bool (.bv 12), .int .i64 (.iv 13)]) = _
    rw [I.i10, I.i11, show denL ρ β (pkC 30 ++ [.bool (.bv 12), .int .i64 (.iv 13)]) = denL ρ β (pkC 30) ++ [.bool (ρ.b 12), .int .i64 (ρ.i 13)] from List.map_append .., I.f30, I.b12, I.i13]
  rw [this]
  exact h
/-- What put leaves. -/
def PtPost (w : World) (g : Nat) (age : Int) (l : Rws) (p : List Value) (v : Value) (w' : World) : Prop := v = .bool (!(l.any (fgt p))) ∧ Only (fun i => i = g) w w' ∧ (l.any (fgt p) = false → Blk w' g 60 (whV age (l ++ [p]))) ∧ ∃ cs, Blk w' g 60 cs
theorem any_yes {q : List Value} (hq : q ∈ l) (h : fgt p q = true) : l.any (fgt p) = true := List.any_eq_true.2 ⟨q, hq, h⟩
theorem any_E (hl : GL l) (hp : GRow p) (h : ¬ (¬ (pMore p = false ∧ 0 ≤ enOf l ∧ enOf l ≠ pTo p) ∧ ¬ (0 ≤ ptE l p ∧ ptE l p < ptL l p))) : l.any (fgt p) = true := by
  by_cases hx : ∀ q ∈ l, ftE p q = false
  · exact absurd ((hl.tests hp).1 hx) h
  · obtain ⟨q, hx⟩ := Classical.not_forall.1 hx
    obtain ⟨hq, hx⟩ := Classical.not_imp.1 hx
    refine any_yes hq ?_
    unfold fgt
    rw [show ftE p q = true by simpa using hx, Bool.or_true]
theorem pt_no (hl : GL l) (hp : GRow p) {β : Bn} {a : Act} {w' : World} {s : Sy.St} {w0 : World} {β0 : Bn} (h0 : β0 0 = g) (hM : Md ρ (fun i => i = g) w0 β0 50 s β a w') (hv : retS Try.prog s Try.f13.results.toList = some (.one (.c (.bool (.bl false))))) (hb : arrB (find 0 s.hp) = true) (hany : l.any (fgt p) = true) : bodyPost Try.prog Try.f13 (RetP (PtPost w0 g age l p)) .ret a w' := by
  refine ret_post (B := ⟨ρ, fun i => i = g, w0, β0, 50⟩) hM hv ⟨?_, hM.only, fun h => ?_, ?_⟩
  · show Value.bool false = _
    rw [hany]; rfl
  · rw [hany] at h; cases h
  · obtain ⟨cs, h⟩ := arrB_ok hM hb
    rw [show β 0 = g from (hM.old 0 (by decide)).trans h0] at h
    exact ⟨cs, h⟩
set_option maxRecDepth 100000 in
set_option maxHeartbeats 1000000 in
theorem pt_loop (hl : GL l) (hp : GRow p) (hE : ∀ q ∈ l, ftE p q = false) {w0 : World} {β0 β : Bn} (h0 : β0 0 = g) (I : PtJ l p age ρ) {a : Act} (hM : Md ρ (fun i => i = g) w0 β0 50 (ptT Try.prog Try.f13) β a w) :
    (Sy.sub ptP (bodyOf Try.f13)).wp Try.prog (ctx Try.prog ptP (bodyOf Try.f13) (bodyPost Try.prog Try.f13 (RetP (PtPost w0 g age l p)))) a w := by
  have f0 := hp.f0
  have t1 := hp.t1
  have htd : pTo p = pFrom p + ((pBody p).size : Int) := rfl
  rw [show Sy.sub ptP (bodyOf Try.f13) = .loop (lpBody (Sy.sub ptP (bodyOf Try.f13))) by kernel_rfl]
  refine loop_wp (S := fun i => i = g) (w0 := w0) (β0 := β0) (r := ptR1 Try.prog Try.f13) rfl pt_run1 (PtJ l p age) (fun ρ => 4000 - (ρ.i 41).toNat) (fun ρ I => I.good) (fun ρ I q hq => by cases hq) (fun ρ I => I.cx hl hp) ?_ I hM
  intro ρ I
  have k0 := I.h0
  have k1 := I.h1
  have i40 := I.i40
  obtain ⟨b26, i27, s28⟩ := pk_let hp.ok I.p20
  have hlt : ∀ {x : Int}, x = pTo p → (den ρ (.add (.iv 40) (.len (.sv 28)))).i = x := fun e => by
    show ρ.i 40 + ((ρ.s 28).size : Int) = _
    rw [s28, i40, e, htd]
  have hTO := hlt rfl
  have must : ∀ pc : List Tm, ρ.i 41 < pTo p → (den ρ (.lt (.sub (.iv 41) (.iv 40)) (.len (.sv 28)))).b = true := fun pc h => by
    rw [t_lt]
    show ρ.i 41 - ρ.i 40 < ((ρ.s 28).size : Int)
    rw [s28, i40]
    omega
  have hNB : (den ρ (.byte (.sv 28) (.sub (.iv 41) (.iv 40)))).i = pByte p (ρ.i 41) := by
    show Sy.byteOf (ρ.s 28) (ρ.i 41 - ρ.i 40) = _
    rw [s28, i40]; rfl
  have hHAS : ρ.i 41 < pTo p → (den ρ (.tb (.get .bool 0) (.cv 2) (.iv 41) (.il 0))).b = hsAt l (ρ.i 41) := fun h => by
    show (getV .bool (((ρ.c 2).getD (ρ.i 41).toNat []).getD 0 (.bool false))).b = _
    rw [I.c2]
    unfold hTk
    rw [rowsF_get _ (by omega)]
    show (hsAt l ((ρ.i 41).toNat : Int) || _) = _
    rw [show (((ρ.i 41).toNat : Nat) : Int) = ρ.i 41 by omega, decide_eq_false (by omega), Bool.or_false]
  have hBY : ρ.i 41 < pTo p → (den ρ (.tb (.get (.int .u8) 0) (.cv 1) (.iv 41) (.il 0))).i = byAt l (ρ.i 41) := fun h => by
    show (getV (.int .u8) (((ρ.c 1).getD (ρ.i 41).toNat []).getD 0 (.bool false))).i = _
    rw [I.c1]
    unfold bTk
    rw [rowsF_get _ (by omega)]
    show IntKind.u8.wrap (if _ then _ else byAt l (((ρ.i 41).toNat : Nat) : Int)) = _
    rw [if_neg (by omega), show (((ρ.i 41).toNat : Nat) : Int) = ρ.i 41 by omega]
    have := byAt_bd l (ρ.i 41)
    exact wrap_in (k := .u8) this.1 this.2
  have back : ρ.i 41 < pTo p → (hsAt l (ρ.i 41) = true → byAt l (ρ.i 41) = pByte p (ρ.i 41)) → ∀ (β : Bn) u, PtJ l p age { ρ.sub β ptBk with u := u } ∧ (4000 - (({ ρ.sub β ptBk with u := u } : Env).i 41).toNat) < 4000 - (ρ.i 41).toNat := fun h hno β u => by
    refine ⟨⟨⟨I.good, I.p20, I.f30, I.b12, I.i13, I.i40, I.i10, I.i11⟩, ?_, ?_, ?_, ?_, ?_⟩, ?_⟩
    · show (ρ.c 1).set (ρ.i 41).toNat [.int .u8 (den ρ (.byte (.sv 28) (.sub (.iv 41) (.iv 40)))).i] = bTk l p (ρ.i 41 + 1)
      rw [hNB, I.c1]
      exact bTk_step l p k0 (by omega)
    · show (ρ.c 2).set (ρ.i 41).toNat [.bool true] = hTk l p (ρ.i 41 + 1)
      rw [I.c2]
      exact hTk_step l p k0 (by omega)
    · show pFrom p ≤ ρ.i 41 + 1
      omega
    · show ρ.i 41 + 1 ≤ pTo p
      omega
    · show ∀ j : Int, pFrom p ≤ j → j < ρ.i 41 + 1 → _
      intro j j0 j1 hs
      by_cases e : j = ρ.i 41
      · rw [e] at hs ⊢; exact hno hs
      · exact I.no j j0 (by omega) hs
    · show 4000 - (ρ.i 41 + 1).toNat < 4000 - (ρ.i 41).toNat
      omega
  refine ⟨?_, ?_, ?_, ?_, ?_, ?_, trivial⟩
  · intro hpc
    have h2 := hpc.2.1
    rw [t_lt, hTO] at h2
    exact must [] h2
  · intro hpc β a w' hM
    have h2 := hpc.2.2.2.1
    rw [t_lt, hTO] at h2
    change ρ.i 41 < pTo p at h2
    have h1 := hpc.2.2.1
    rw [hHAS h2] at h1
    have h3 := hpc.1
    rw [t_not, t_eq, hBY h2, hNB] at h3
    refine ctx_ret (P := Try.prog) ptP (bodyOf Try.f13) _ (pt_no hl hp h0 hM (retsB_ok pt_ret1 rfl) pt_hp1 ?_)
    obtain ⟨q, hq, hc⟩ := hs_iff.1 h1
    refine any_yes hq ?_
    unfold fgt
    rw [ftB_yes hp (cov_iff.2 ⟨k0, h2⟩) hc (by rw [← hl.by hq hc]; exact Ne.symm h3), Bool.true_or]
  · intro hpc β
    have h2 := hpc.2.2.2.1
    rw [t_lt, hTO] at h2
    change ρ.i 41 < pTo p at h2
    have h3 := hpc.1
    rw [t_eq, hBY h2, hNB] at h3
    exact back h2 (fun _ => h3) β
  · intro hpc
    have h2 := hpc.2.1
    rw [t_lt, hTO] at h2
    exact must [] h2
  · intro hpc β
    have h2 := hpc.2.2.1
    rw [t_lt, hTO] at h2
    change ρ.i 41 < pTo p at h2
    have h1 := hpc.2.1
    rw [t_not, hHAS h2] at h1
    exact back h2 (fun e => absurd e h1) β
  · intro hpc β a w' hM
    have h2 := hpc.1
    rw [t_not, t_lt, hTO] at h2
    change ¬ ρ.i 41 < pTo p at h2
    have e41 : ρ.i 41 = pTo p := by omega
    have hc1 := I.c1
    have hc2 := I.c2
    have hno := I.no
    rw [e41] at hc1 hc2 hno
    have hany : l.any (fgt p) = false := by
      rw [List.any_eq_false]
      intro q hq
      have h1 := hE q hq
      have h2 : ftB p q = false := by
        cases e : ftB p q with
        | false => rfl
        | true =>
          unfold ftB at e
          rw [List.any_eq_true] at e
          obtain ⟨j, _, e⟩ := e
          simp only [Bool.and_eq_true, Bool.not_eq_true', decide_eq_false_iff_not] at e
          obtain ⟨c1, c2⟩ := cov_iff.1 e.1
          exact absurd ((hno _ c1 c2 (hs_iff.2 ⟨q, hq, e.2.1⟩)).symm.trans (hl.by hq e.2.1)) e.2.2
      unfold fgt
      rw [h1, h2]
      decide
    have hG := hl.snoc hp hany
    rw [bTk_end hG] at hc1
    rw [hTk_end] at hc2
    have hen : ptE l p = enOf (l ++ [p]) := (en_snoc hl hp ((hl.tests hp).1 hE).1).symm
    have hla : ptL l p = laOf (l ++ [p]) := (la_snoc l p).symm
    have i10 := I.i10
    have i11 := I.i11
    rw [hen] at i10
    rw [hla] at i11
    have i13 := I.i13
    have fin : ∀ (cs : List C), (∀ β, denL ρ β cs = .int .i64 (enOf (l ++ [p])) :: .int .i64 (laOf (l ++ [p])) :: (fsC (l ++ [p]) ++ [.bool (fsOf (l ++ [p])).isSome, .int .i64 age])) → ∀ β2 w2, Hp ρ (fun i => i = g) w0 β0 50 [⟨0, 60, cs, true, none, .arr whI⟩] β2 w2 → PtPost w0 g age l p ((SV.one (.c (.bool (.bl true)))).den ρ β2) w2 := fun cs hcs β2 w2 hH => by
      have hB : Blk w2 (β2 0) 60 (layV ρ (denL ρ β2 cs) whI) := (hH.hp _ (List.mem_cons_self ..)).1
      rw [lay_wh, hcs, hc1, hc2, show β2 0 = g from (hH.old 0 (by decide)).trans h0] at hB
      refine ⟨?_, hH.only, fun _ => hB, ⟨_, hB⟩⟩
      show Value.bool true = _
      rw [hany]; rfl
    have keep : ¬ ((fsOf l).isSome = false ∧ pOff p = 0) → ∀ β, denL ρ β whC = .int .i64 (enOf (l ++ [p])) :: .int .i64 (laOf (l ++ [p])) :: (fsC (l ++ [p]) ++ [.bool (fsOf (l ++ [p])).isSome, .int .i64 age]) := fun hk β => by
      show Value.int .i64 (ρ.i 10) :: .int .i64 (ρ.i 11) :: denL ρ β (pkC 30 ++ [.bool (.bv 12), .int .i64 (.iv 13)]) = _
      rw [i10, i11, show denL ρ β (pkC 30 ++ [.bool (.bv 12), .int .i64 (.iv 13)]) = denL ρ β (pkC 30) ++ [.bool (ρ.b 12), .int .i64 (ρ.i 13)] from List.map_append .., I.f30, I.b12, i13, fsC_snoc, if_neg hk, fsS_snoc]
      congr 5
      cases e : (fsOf l).isSome with
      | true => rfl
      | false => rw [decide_eq_false fun q => hk ⟨e, q⟩]; rfl
    have hz : ρ.i 40 = 0 → pOff p = 0 := fun e => by
      have : pFrom p = 8 * pOff p := rfl
      omega
    refine aft_fin (B := ⟨ρ, fun i => i = g, w0, β0, 50⟩) I.good (fun q hq => by cases hq) rfl (.exit 0) pt_run2 ⟨?_, ?_, ?_, ?_, trivial⟩ hM
    · intro hpc β2 w2 hH
      have p1 := hpc.1
      have p3 := hpc.2.2.1
      rw [t_not, t_bv, I.b12] at p1
      rw [t_eq] at p3
      have hk : (fsOf l).isSome = false ∧ pOff p = 0 := ⟨by simpa using p1, hz p3⟩
      refine fin whCf (fun β => ?_) β2 w2 hH
      show Value.int .i64 (ρ.i 10) :: .int .i64 (ρ.i 11) :: denL ρ β (pkC 20 ++ [.bool (.bl true), .int .i64 (.iv 13)]) = _
      rw [i10, i11, show denL ρ β (pkC 20 ++ [.bool (.bl true), .int .i64 (.iv 13)]) = denL ρ β (pkC 20) ++ [.bool true, .int .i64 (ρ.i 13)] from List.map_append .., I.p20, i13, fsC_snoc, if_pos hk, fsS_snoc, hk.2]
      simp
    · intro hpc β2 w2 hH
      have p1 := hpc.1
      rw [t_bv, I.b12] at p1
      exact fin whC (keep fun q => by rw [p1] at q; cases q.1) β2 w2 hH
    · intro hpc β2 w2 hH
      have p1 := hpc.1
      have p2 := hpc.2.1
      rw [t_not, t_lt, hTO] at p1
      rw [t_eq] at p2
      exact absurd (hp.z (hz p2)) p1
    · intro hpc β2 w2 hH
      have p1 := hpc.1
      rw [t_not, t_eq] at p1
      refine fin whC (keep fun q => p1 ?_) β2 w2 hH
      show ρ.i 40 = 0
      rw [i40]
      have : pFrom p = 8 * pOff p := rfl
      omega
set_option maxRecDepth 100000 in
set_option maxHeartbeats 1000000 in
/-- put. -/
theorem put_calls (h : Blk w g 60 (whV age l)) (hl : GL l) (hp : GRow p) : Calls Try.prog 13 #[.pointer (some ⟨g, 0, none⟩), .agg p.toArray, .int .i64 (pFrom p)] w (RetP (PtPost w g age l p)) := by
  have I := ptE_I hl hp age
  obtain ⟨b26, i27, s28⟩ := pk_let hp.ok I.p20
  have hTO : (den (ptEnv l p age) (.add (.iv 40) (.len (.sv 28)))).i = pTo p := by
    show (ptEnv l p age).i 40 + (((ptEnv l p age).s 28).size : Int) = _
    rw [s28, I.i40]; rfl
  have hMX : (den (ptEnv l p age) (.ite (.lt (.iv 11) (.add (.iv 40) (.len (.sv 28)))) (.add (.iv 40) (.len (.sv 28))) (.iv 11))).i = ptL l p := by
    rw [i_max, hTO]; rfl
  have i10 : (den (ptEnv l p age) (.iv 10)).i = enOf l := rfl
  have hM : Md (ptEnv l p age) (fun i => i = g) w (fun l => if l = 0 then g else 0) 50 ptS (fun l => if l = 0 then g else 0) ⟨#[], []⟩ w := by
    refine Sy.Md.init ⟨wh_start h rfl I rfl rfl true, trivial⟩ ⟨trivial, trivial⟩ ⟨fun _ _ i hi => fp_one rfl hi, trivial⟩ ⟨bdsP_ok (I.bds hp (en_bd hl.row) ⟨la_0 l, la_le hl.row⟩), fun t ht => by cases ht⟩ rfl
  have hh := pt_hp
  simp only [List.all_cons, List.all_nil, Bool.and_eq_true, and_true] at hh
  obtain ⟨a0, a1, a3, a5⟩ := hh
  have hm := pt_m
  simp only [List.map_cons, List.map_nil, List.cons.injEq, and_true] at hm
  obtain ⟨m2, m4, m6, m7⟩ := hm
  have next : ∀ (A : List As) (k : Nat), (matchS 50 (ptT Try.prog Try.f13) (lfAt (ptR0 Try.prog Try.f13) k)).map noU = some A → (∀ (β : Bn) u, ({ (ptEnv l p age).sub β A with u := u } : Env).i 41 = pFrom p ∧ PtI l p age (ptE l p) (ptL l p) { (ptEnv l p age).sub β A with u := u } ∧ ({ (ptEnv l p age).sub β A with u := u } : Env).c = (ptEnv l p age).c) → (∀ q ∈ l, ftE p q = false) →
      ∀ β a w', Md (ptEnv l p age) (fun i => i = g) w (fun l => if l = 0 then g else 0) 50 (lfAt (ptR0 Try.prog Try.f13) k) β a w' → (Sy.sub ptP (bodyOf Try.f13)).wp Try.prog (ctx Try.prog ptP (bodyOf Try.f13) (bodyPost Try.prog Try.f13 (RetP (PtPost w g age l p)))) a w' := fun A k hmk hI hE β a w' M => by
    have J : ∀ u, PtJ l p age { (ptEnv l p age).sub β A with u := u } := fun u => by
      obtain ⟨e41, I', ec⟩ := hI β u
      refine ⟨I', ?_, ?_, by rw [e41]; exact Int.le_refl _, by rw [e41]; exact hp.ft, fun j j0 j1 => by rw [e41] at j1; omega⟩
      · rw [e41, ec, bTk_0]; rfl
      · rw [e41, ec, hTk_0]; rfl
    obtain ⟨u, β', M'⟩ := Sy.Md.enter M hmk fun u => (J u).cx hl hp
    exact pt_loop (g := g) (β0 := fun l => if l = 0 then g else 0) hl hp hE rfl (J u) M'
  have P4 : pMore p = false → ∀ (β : Bn) u, ({ (ptEnv l p age).sub β ptA4 with u := u } : Env).i 41 = pFrom p ∧ PtI l p age (ptE l p) (ptL l p) { (ptEnv l p age).sub β ptA4 with u := u } ∧ ({ (ptEnv l p age).sub β ptA4 with u := u } : Env).c = (ptEnv l p age).c := fun hm β u => by
    refine ⟨rfl, ⟨I.good, I.p20, I.f30, I.b12, I.i13, I.i40, ?_, hMX⟩, rfl⟩
    refine hTO.trans ?_
    unfold ptE
    rw [hm, if_neg (by decide)]
  have P6 : pMore p = true → ∀ (β : Bn) u, ({ (ptEnv l p age).sub β ptA6 with u := u } : Env).i 41 = pFrom p ∧ PtI l p age (ptE l p) (ptL l p) { (ptEnv l p age).sub β ptA6 with u := u } ∧ ({ (ptEnv l p age).sub β ptA6 with u := u } : Env).c = (ptEnv l p age).c := fun hm β u => by
    refine ⟨rfl, ⟨I.good, I.p20, I.f30, I.b12, I.i13, I.i40, ?_, hMX⟩, rfl⟩
    show enOf l = ptE l p
    unfold ptE
    rw [hm, if_pos rfl]
  have hEf : pMore p = false → ptE l p = pTo p := fun hm => by unfold ptE; rw [hm, if_neg (by decide)]
  have hEt : pMore p = true → ptE l p = enOf l := fun hm => by unfold ptE; rw [hm, if_pos rfl]
  have f0 := hp.f0
  have ft := hp.ft
  refine calls_pre (B := ⟨ptEnv l p age, fun i => i = g, w, fun l => if l = 0 then g else 0, 50⟩) (sp := []) (p := ptP) (xs := ptA) (s := ptS) (r := ptR0 Try.prog Try.f13) I.good (fun q hq => by cases hq) rfl Try.func13 rfl rfl pt_run0 hM ?_ (by
    show _ = #[Value.pointer (some ⟨g, 0, none⟩), .agg (denL (ptEnv l p age) _ (pkC 20)).toArray, .int .i64 (pFrom p)]
    rw [I.p20])
  have nm : ¬ (den (ptEnv l p age) (.bv 26)).b = true → pMore p = false := fun e => by
    have : ¬ (ptEnv l p age).b 26 = true := e
    rw [b26] at this
    simpa using this
  have ym : (den (ptEnv l p age) (.bv 26)).b = true → pMore p = true := fun e => b26.symm.trans e
  refine ⟨?_, ?_, ?_, ?_, ?_, ?_, ?_, ?_, trivial⟩
  · intro hpc β a w' M
    obtain ⟨c1, c2, c3, _⟩ := hpc
    rw [t_not, t_eq, i10, hTO] at c1
    rw [t_le, i10] at c2
    change (0 : Int) ≤ _ at c2
    rw [t_not] at c3
    exact pt_no hl hp rfl M (retsB_ok pt_ret0 rfl) a0 (any_E hl hp fun e => e.1 ⟨nm c3, c2, c1⟩)
  · intro hpc β a w' M
    obtain ⟨c1, c2, c3, c4, _⟩ := hpc
    rw [t_lt, hTO, hMX] at c1
    rw [t_not] at c4
    have hm := nm c4
    exact pt_no hl hp rfl M (retsB_ok pt_ret0 rfl) a1 (any_E hl hp fun e => e.2 (by rw [hEf hm]; omega))
  · intro hpc
    obtain ⟨c1, c2, c3, c4, _⟩ := hpc
    rw [t_not, t_lt, hTO, hMX] at c1
    rw [t_eq, i10, hTO] at c2
    rw [t_not] at c4
    have hm := nm c4
    exact next ptA4 2 m2 (P4 hm) ((hl.tests hp).2 ⟨fun e => e.2.2 c2, fun e => by rw [hEf hm] at e; omega⟩)
  · intro hpc β a w' M
    obtain ⟨c1, c2, c3, _⟩ := hpc
    rw [t_lt, hTO, hMX] at c1
    rw [t_not] at c3
    have hm := nm c3
    exact pt_no hl hp rfl M (retsB_ok pt_ret0 rfl) a3 (any_E hl hp fun e => e.2 (by rw [hEf hm]; omega))
  · intro hpc
    obtain ⟨c1, c2, c3, _⟩ := hpc
    rw [t_not, t_lt, hTO, hMX] at c1
    rw [t_not, t_le, i10] at c2
    change ¬ (0 : Int) ≤ _ at c2
    rw [t_not] at c3
    have hm := nm c3
    exact next ptA4 4 m4 (P4 hm) ((hl.tests hp).2 ⟨fun e => c2 e.2.1, fun e => by rw [hEf hm] at e; omega⟩)
  · intro hpc β a w' M
    obtain ⟨c1, c2, c3, _⟩ := hpc
    rw [t_lt, i10, hMX] at c1
    rw [t_le, i10] at c2
    change (0 : Int) ≤ _ at c2
    have hm := ym c3
    exact pt_no hl hp rfl M (retsB_ok pt_ret0 rfl) a5 (any_E hl hp fun e => e.2 (by rw [hEt hm]; omega))
  · intro hpc
    obtain ⟨c1, c2, c3, _⟩ := hpc
    rw [t_not, t_lt, i10, hMX] at c1
    have hm := ym c3
    exact next ptA6 6 m6 (P6 hm) ((hl.tests hp).2 ⟨fun e => (by rw [hm] at e; cases e.1), fun e => by rw [hEt hm] at e; omega⟩)
  · intro hpc
    obtain ⟨c1, c2, _⟩ := hpc
    rw [t_not, t_le, i10] at c1
    change ¬ (0 : Int) ≤ _ at c1
    have hm := ym c2
    exact next ptA6 7 m7 (P6 hm) ((hl.tests hp).2 ⟨fun e => (by rw [hm] at e; cases e.1), fun e => by rw [hEt hm] at e; omega⟩)
end
end Go.Proofs.Ytnmfmjlpfhdgeaa
/- Fragments: done's contract. -/
namespace Go.Proofs.Ytnmfmjlpfhdgeaa
open Go.RowKit Sy
set_option linter.unusedVariables false
set_option linter.unusedSimpArgs false

/-- Does nothing lack? -/
def dnB (l : Rws) : Bool := decide (0 ≤ enOf l) && (List.range (enOf l).toNat).all fun j => hsAt l (j : Int)
theorem dn_known {l : Rws} (hl : GL l) (h0 : 0 ≤ enOf l) (h : ∀ j : Nat, (j : Int) < enOf l → hsAt l (j : Int) = true) : (fsOf l).isSome = true ∧ 0 < enOf l := by
  obtain ⟨x, hx, hm, e⟩ := en_is h0
  have hr := hl.row x hx
  have f0 := hr.f0
  have ft := hr.ft
  have o0 := hr.o0
  have hpos : 0 < enOf l := by
    by_cases q : pOff x = 0
    · have := hr.z q; omega
    · have : pFrom x = 8 * pOff x := rfl
      omega
  refine ⟨?_, hpos⟩
  obtain ⟨y, hy, hc⟩ := hs_iff.1 (h 0 hpos)
  have c1 := (cov_iff.1 hc).1
  have hry := hl.row y hy
  have oy := hry.o0
  have : pFrom y = 8 * pOff y := rfl
  unfold fsOf
  rw [List.find?_isSome]
  exact ⟨y, hy, decide_eq_true (by omega)⟩
def dnA : List SV := [.one (.c (.ptr 0 0))]
def dnS : Sy.St := ⟨[], [whB false], ⟨[⟨.iv 10, -1, 4000⟩], []⟩, 50⟩
def dnP : List Nat := [1, 1, 0, 1, 2]
def dnR0 (P : Program) (fn : Func) : Rs := run P [] 10 400 50 (.code (pre dnP (bodyOf fn))) (enterS fn dnA dnS)
def dnBs : List Bd := [⟨.iv 41, 0, 4000⟩, ⟨.iv 10, 0, 4000⟩]
def dnT (P : Program) (fn : Func) : Sy.St := tplS (lfAt (dnR0 P fn) 1) (lpBody (Sy.sub dnP (bodyOf fn))) [(19, .one (.c (.int .i64 (.iv 41))))] [whB false] ⟨dnBs, [.le (.iv 41) (.iv 10)]⟩ 60
def dnR1 (P : Program) (fn : Func) : Rs := run P [] 10 400 50 (.code (lpBody (Sy.sub dnP (bodyOf fn)))) (dnT P fn)
def dnR2 (P : Program) (fn : Func) : Rs := run P [] 10 400 50 (.code (aft (.exit 0) dnP (bodyOf fn))) (lfAt (dnR1 P fn) 2)
def dnBk : List As := [.i 41 (.add (.iv 41) (.il 1))]
set_option maxRecDepth 100000 in
theorem dn_run0 : shR 50 none (dnR0 Try.prog Try.f14) = some [.out 0 .ret [.lt (.iv 10) (.il 0)], .out 1 .normal [.not (.lt (.iv 10) (.il 0))]] := by kernel_rfl
set_option maxRecDepth 100000 in
theorem dn_ret0 : retsB Try.prog Try.f14 (dnR0 Try.prog Try.f14) (.one (.c (.bool (.bl false)))) [0] = true := by kernel_rfl
set_option maxRecDepth 100000 in
theorem dn_m : (matchS 50 (dnT Try.prog Try.f14) (lfAt (dnR0 Try.prog Try.f14) 1)).map noU = some [.i 41 (.il 0)] := by kernel_rfl
set_option maxRecDepth 100000 in
theorem dn_run1 : shR 50 (some (dnT Try.prog Try.f14)) (dnR1 Try.prog Try.f14) = some [.out 0 .ret [.not (.tb (.get .bool 0) (.cv 2) (.iv 41) (.il 0)), .lt (.iv 41) (.iv 10), .le (.iv 41) (.iv 10)], .back dnBk [(.tb (.get .bool 0) (.cv 2) (.iv 41) (.il 0)), .lt (.iv 41) (.iv 10), .le (.iv 41) (.iv 10)], .out 2 (.exit 0) [.not (.lt (.iv 41) (.iv 10)), .le (.iv 41) (.iv 10)]] := by kernel_rfl
set_option maxRecDepth 100000 in
theorem dn_ret1 : retsB Try.prog Try.f14 (dnR1 Try.prog Try.f14) (.one (.c (.bool (.bl false)))) [0] = true := by kernel_rfl
set_option maxRecDepth 100000 in
theorem dn_run2 : smR Try.prog Try.f14 50 (dnR2 Try.prog Try.f14) = some [.ret (.one (.c (.bool (.bv 12)))) [whB false] [.not (.lt (.iv 41) (.iv 10)), .le (.iv 41) (.iv 10)]] := by kernel_rfl
set_option maxRecDepth 100000 in
theorem dn_cx : (dnT Try.prog Try.f14).cx = ⟨dnBs, [.le (.iv 41) (.iv 10)]⟩ := by kernel_rfl
structure DnI (l : Rws) (ρ : Env) : Prop where
  good : ρ.good
  b12 : ρ.b 12 = (fsOf l).isSome
  i10 : ρ.i 10 = enOf l
  c2 : ρ.c 2 = hsT l
  e0 : 0 ≤ enOf l
  h0 : 0 ≤ ρ.i 41
  h1 : ρ.i 41 ≤ enOf l
  all : ∀ j : Nat, (j : Int) < ρ.i 41 → hsAt l (j : Int) = true
section
variable {l : Rws} {p : List Value} {age : Int} {w : World} {g : Nat} {ρ : Env}
theorem DnI.cx (hl : GL l) (I : DnI l ρ) : (dnT Try.prog Try.f14).cx.ok ρ := by
  rw [dn_cx]
  have h0 := I.h0
  have h1 := I.h1
  have e0 := I.e0
  have := (en_bd hl.row).2
  refine cxP ⟨?_, ?_, trivial⟩ ⟨?_, trivial⟩
  · show (0 : Int) ≤ ρ.i 41 ∧ ρ.i 41 ≤ 4000
    omega
  · show (0 : Int) ≤ ρ.i 10 ∧ ρ.i 10 ≤ 4000
    rw [I.i10]; omega
  · rw [t_le]
    show ρ.i 41 ≤ ρ.i 10
    rw [I.i10]; exact h1
set_option maxRecDepth 100000 in
set_option maxHeartbeats 1000000 in
/-- done. -/
theorem done_calls (h : Blk w g 60 (whV age l)) (hl : GL l) : Calls Try.prog 14 #[.pointer (some ⟨g, 0, none⟩)] w (RetP fun v w' => v = .bool (dnB l) ∧ Below w.heap.size w w') := by
  have I : PtI l (fsC l) age (enOf l) (laOf l) { ptEnv l (fsC l) age with i := fun n => if n = 41 then 0 else if n = 40 then pFrom (fsC l) else (ptEnv l (fsC l) age).i n } := ⟨fun i => rfl, fun β => pk_den (h := 20) (fsC_ok hl) rfl rfl rfl rfl rfl rfl rfl rfl rfl β, fun β => pk_den (h := 30) (fsC_ok hl) rfl rfl rfl rfl rfl rfl rfl rfl rfl β, rfl, rfl, rfl, rfl, rfl⟩
  generalize hρ : ({ ptEnv l (fsC l) age with i := fun n => if n = 41 then 0 else if n = 40 then pFrom (fsC l) else (ptEnv l (fsC l) age).i n } : Env) = ρ at I
  have c1 : ρ.c 1 = byT l := by rw [← hρ]; rfl
  have c2 : ρ.c 2 = hsT l := by rw [← hρ]; rfl
  clear hρ
  have hbd := en_bd hl.row
  have hM : Md ρ (fun _ => False) w (fun l => if l = 0 then g else 0) 50 dnS (fun l => if l = 0 then g else 0) ⟨#[], []⟩ w := by
    refine Sy.Md.init ⟨wh_start h rfl I c1 c2 false, trivial⟩ ⟨trivial, trivial⟩ ⟨fun h => (by cases h), trivial⟩ ⟨bdsP_ok ⟨?_, trivial⟩, fun t ht => by cases ht⟩ rfl
    show (-1 : Int) ≤ ρ.i 10 ∧ ρ.i 10 ≤ 4000
    rw [I.i10]; exact hbd
  refine calls_pre (B := ⟨ρ, fun _ => False, w, fun l => if l = 0 then g else 0, 50⟩) (sp := []) (p := dnP) (xs := dnA) (s := dnS) (r := dnR0 Try.prog Try.f14) I.good (fun q hq => by cases hq) rfl Try.func14 rfl rfl dn_run0 hM ⟨?_, ?_, trivial⟩ rfl
  · intro hpc β a w' M
    have h1 := hpc.1
    rw [t_lt] at h1
    change ρ.i 10 < 0 at h1
    rw [I.i10] at h1
    refine ret_post (B := ⟨ρ, fun _ => False, w, fun l => if l = 0 then g else 0, 50⟩) M (retsB_ok dn_ret0 rfl) ⟨?_, Sy.Only.below_all M.only⟩
    show Value.bool false = _
    unfold dnB
    rw [decide_eq_false (by omega)]
    rfl
  · intro hpc β a w' M
    have h1 := hpc.1
    rw [t_not, t_lt] at h1
    change ¬ ρ.i 10 < 0 at h1
    rw [I.i10] at h1
    have J : ∀ u, DnI l { ρ.sub β [.i 41 (.il 0)] with u := u } := fun u => ⟨I.good, I.b12, I.i10, c2, by omega, Int.le_refl _, by show (0 : Int) ≤ _; omega, fun j hj => by
      change (j : Int) < 0 at hj
      omega⟩
    obtain ⟨u, β', M'⟩ := Sy.Md.enter M dn_m fun u => (J u).cx hl
    show (Sy.sub dnP (bodyOf Try.f14)).wp Try.prog (ctx Try.prog dnP (bodyOf Try.f14) _) a w'
    rw [show Sy.sub dnP (bodyOf Try.f14) = .loop (lpBody (Sy.sub dnP (bodyOf Try.f14))) by kernel_rfl]
    refine loop_wp (S := fun _ => False) (w0 := w) (β0 := fun l => if l = 0 then g else 0) (r := dnR1 Try.prog Try.f14) rfl dn_run1 (DnI l) (fun ρ => 4000 - (ρ.i 41).toNat) (fun ρ I => I.good) (fun ρ I q hq => by cases hq) (fun ρ I => I.cx hl) ?_ (J u) M'
    intro ρ I
    have k0 := I.h0
    have k1 := I.h1
    have hHAS : ρ.i 41 < enOf l → (den ρ (.tb (.get .bool 0) (.cv 2) (.iv 41) (.il 0))).b = hsAt l (ρ.i 41) := fun h => by
      show (getV .bool (((ρ.c 2).getD (ρ.i 41).toNat []).getD 0 (.bool false))).b = _
      rw [I.c2]
      unfold hsT
      rw [rowsF_get _ (by omega)]
      show hsAt l ((ρ.i 41).toNat : Int) = _
      rw [show (((ρ.i 41).toNat : Nat) : Int) = ρ.i 41 by omega]
    refine ⟨?_, ?_, ?_, trivial⟩
    · intro hpc β a w' M
      have h2 := hpc.2.1
      rw [t_lt] at h2
      change ρ.i 41 < ρ.i 10 at h2
      rw [I.i10] at h2
      have h3 := hpc.1
      rw [t_not, hHAS h2] at h3
      refine ctx_ret (P := Try.prog) dnP (bodyOf Try.f14) _ (ret_post (B := ⟨ρ, fun _ => False, w, fun l => if l = 0 then g else 0, 50⟩) M (retsB_ok dn_ret1 rfl) ⟨?_, Sy.Only.below_all M.only⟩)
      show Value.bool false = _
      unfold dnB
      congr 1
      symm
      rw [Bool.and_eq_false_iff]
      refine .inr ?_
      rw [List.all_eq_false]
      exact ⟨(ρ.i 41).toNat, List.mem_range.2 (by omega), by rw [show (((ρ.i 41).toNat : Nat) : Int) = ρ.i 41 by omega]; exact h3⟩
    · intro hpc β u
      have h2 := hpc.2.1
      rw [t_lt] at h2
      change ρ.i 41 < ρ.i 10 at h2
      rw [I.i10] at h2
      have h3 := hpc.1
      rw [hHAS h2] at h3
      refine ⟨⟨I.good, I.b12, I.i10, I.c2, I.e0, ?_, ?_, ?_⟩, ?_⟩
      · show 0 ≤ ρ.i 41 + 1
        omega
      · show ρ.i 41 + 1 ≤ enOf l
        omega
      · show ∀ j : Nat, (j : Int) < ρ.i 41 + 1 → _
        intro j hj
        by_cases e : (j : Int) = ρ.i 41
        · rw [e]; exact h3
        · exact I.all j (by omega)
      · show 4000 - (ρ.i 41 + 1).toNat < 4000 - (ρ.i 41).toNat
        omega
    · intro hpc β a w' M
      have h2 := hpc.1
      rw [t_not, t_lt] at h2
      change ¬ ρ.i 41 < ρ.i 10 at h2
      rw [I.i10] at h2
      have hall : ∀ j : Nat, (j : Int) < enOf l → hsAt l (j : Int) = true := fun j hj => I.all j (by omega)
      obtain ⟨hk, _⟩ := dn_known hl I.e0 hall
      refine aft_fin (B := ⟨ρ, fun _ => False, w, fun l => if l = 0 then g else 0, 50⟩) I.good (fun q hq => by cases hq) rfl (.exit 0) dn_run2 ⟨?_, trivial⟩ M
      intro _ β2 w2 hH
      refine ⟨?_, Sy.Only.below_all hH.only⟩
      show Value.bool (ρ.b 12) = _
      rw [I.b12, hk]
      congr 1
      symm
      unfold dnB
      rw [decide_eq_true I.e0, Bool.true_and, List.all_eq_true]
      intro j hj
      exact hall j (by have := List.mem_range.1 hj; omega)
end
end Go.Proofs.Ytnmfmjlpfhdgeaa
