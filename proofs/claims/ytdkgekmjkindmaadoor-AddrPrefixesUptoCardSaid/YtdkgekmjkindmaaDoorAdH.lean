/- A prefix that came in by value. -/
import Derived.Test.YtdkgekmjkindmaaDoorLeaf
namespace Go.Proofs.YtdkgekmjkindmaaDoor
open Go.RowKit
set_option linter.unusedVariables false
theorem pfx_leaf {c : Array Value} (h : leafAll [lU, lI] c.toList) : ∃ a n, c = #[.int .u32 a, .int .i64 n] ∧ (Lit.int .u32 a).wf = true ∧ (Lit.int .i64 n).wf = true := by
  obtain ⟨l⟩ := c
  cases l with
  | nil => exact h.elim
  | cons x l =>
    cases l with
    | nil => exact h.2.elim
    | cons y l =>
      cases l with
      | nil =>
        obtain ⟨⟨a, e1, wa⟩, ⟨n, e2, wn⟩, _⟩ := h
        exact ⟨a, n, by rw [e1, e2], wa, wn⟩
      | cons z l => exact h.2.2.elim
end Go.Proofs.YtdkgekmjkindmaaDoor
