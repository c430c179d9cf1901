/- A slice of rows of flat cells that came in. -/
import Derived.Test.YtnmfmjlpfhdgeaaLawLift
import Derived.Test.YtnmfmjlpfhdgeaaMem
namespace Go.Proofs.Ytnmfmjlpfhdgeaa
open Go.RowKit
set_option linter.unusedVariables false

abbrev lI : Leaf := some (some .i64)
abbrev lU : Leaf := some (some .u32)
abbrev lB : Leaf := some none
abbrev lS : Leaf := none
/-- Kind A B On S (0 to 4), P (5), K (7), G (16), M (29), E (34), F (36), Bound (38). -/
def stepLeaves : List Leaf := [lI, lI, lI, lB, lS, lU, lI, lU, lU, lI, lI, lI, lB, lB, lI, lS, lU, lI, lU, lI, lU, lU, lB, lB, lB, lB, lI, lI, lS, lU, lI, lU, lI, lS, lU, lI, lU, lI, lI, lU, lI, lU, lI, lB, lI]

theorem leafAll_get : ∀ {l : List Leaf} {cs : List Value}, leafAll l cs → ∀ {j : Nat} {x : Leaf}, l[j]? = some x → ∃ v, cs[j]? = some v ∧ leafOK x v
  | _ :: _, _ :: _, h, 0, x, hx => by
    simp at hx
    subst hx
    exact ⟨_, rfl, h.1⟩
  | _ :: _, _ :: _, h, j + 1, x, hx => leafAll_get h.2 (by simpa using hx)
  | [], [], _, _, _, hx => by simp at hx
  | [], _ :: _, h, _, _, _ => h.elim
  | _ :: _, [], h, _, _, _ => h.elim
theorem leaf_int {l : List Leaf} {cs : List Value} (h : leafAll l cs) (j : Nat) {k : IntKind} (hx : l[j]? = some (some (some k))) : ∃ n, cs[j]? = some (.int k n) ∧ (Lit.int k n).wf = true := by
  obtain ⟨v, hv, n, rfl, hw⟩ := leafAll_get h hx
  exact ⟨n, hv, hw⟩
theorem leaf_bool {l : List Leaf} {cs : List Value} (h : leafAll l cs) (j : Nat) (hx : l[j]? = some (some none)) : ∃ b, cs[j]? = some (.bool b) := by
  obtain ⟨v, hv, n, rfl⟩ := leafAll_get h hx
  exact ⟨n, hv⟩
theorem leaf_str {l : List Leaf} {cs : List Value} (h : leafAll l cs) (j : Nat) (hx : l[j]? = some none) : ∃ s : ByteArray, cs[j]? = some (.string s) ∧ s.size ≤ maxLen := by
  obtain ⟨v, hv, n, rfl, hw⟩ := leafAll_get h hx
  exact ⟨n, hv, hw⟩
theorem leafOK_cell : ∀ {x : Leaf} {v : Value}, leafOK x v → v.oneCell' = true
  | some (some k), _, ⟨n, rfl, _⟩ => rfl
  | some none, _, ⟨b, rfl⟩ => rfl
  | none, _, ⟨s, rfl, _⟩ => rfl
theorem leafAll_cell : ∀ {l : List Leaf} {cs : List Value}, leafAll l cs → ∀ v ∈ cs, v.oneCell' = true
  | _ :: _, _ :: _, h, v, hv => by
    rcases List.mem_cons.1 hv with rfl | hv
    · exact leafOK_cell h.1
    · exact leafAll_cell h.2 v hv
  | [], [], _, v, hv => by simp at hv
  | [], _ :: _, h, _, _ => h.elim
  | _ :: _, [], h, _, _ => h.elim

/-- A slice of flat data that came in: len elements of l.length cells each, the i-th one's C i. -/
def Came (l : List Leaf) (w : World) (a : Option Addr) (len : Nat) (C : Nat → List Value) : Prop :=
  len ≤ 9223372036854775807 ∧ (len = 0 ∨ ∃ b off, a = some ⟨b, off, none⟩ ∧ b < w.heap.size ∧ ∀ i, i < len → leafAll l (C i) ∧ w.rangeAt b (off + i * l.length) (C i))

/-- As 'open_flat' gives it. -/
abbrev Opened (l : List Leaf) (w : World) (a : Option Addr) (len cap : Nat) : Prop :=
  (a = none ∧ len = 0 ∧ cap = 0) ∨ ∃ x : Addr, a = some x ∧ len ≤ cap ∧ cap ≤ maxLen ∧ (0 < len → x.spot = none ∧ x.block < w.heap.size) ∧
    ∃ C : Nat → List Value, ∀ i, i < len → leafAll l (C i) ∧ ∀ j u, (C i)[j]? = some u → w.cell? (x.add (i * l.length + j)) = some u
theorem came_of {l : List Leaf} {w : World} {a : Option Addr} {len cap : Nat} (o : Opened l w a len cap) : ∃ C, Came l w a len C := by
  rcases o with ⟨rfl, rfl, _⟩ | ⟨x, rfl, hl, hc, h0, C, hC⟩
  · exact ⟨fun _ => [], by omega, .inl rfl⟩
  · refine ⟨C, by unfold maxLen at hc; omega, ?_⟩
    rcases Nat.eq_zero_or_pos len with hz | hp
    · exact .inl hz
    · obtain ⟨hs, hb⟩ := h0 hp
      obtain ⟨b, off, spot⟩ := x
      simp only at hs hb
      subst hs
      refine .inr ⟨b, off, rfl, hb, fun i hi => ⟨(hC i hi).1, fun j v hv => ?_⟩⟩
      have := (hC i hi).2 j v hv
      rw [Addr.add_mid, ← Nat.add_assoc] at this
      exact this
end Go.Proofs.Ytnmfmjlpfhdgeaa
