/- A slice that came in is not larger than what memory reaches. -/
import Derived.Test.YtnmfmjlpfhdgeaaLawLift
namespace Go.Proofs.Ytnmfmjlpfhdgeaa
open Go.ChangeShapes Go.WideShapes Go.ChangeAt Go.RowKit
variable {H : Type} {enc : TypeId × Value → H} {P : Program} {w : World} {base : Nat} {spare : Nat → Bool} {held : Bool}
theorem slice_len {t e : TypeId} {a : Option Addr} {len cap : Nat} {d : DataW H} {p : List MemPlace} (ht : P.underlying t = some (.slice e)) (h : DataW.Trod enc P w base spare held t (.slice a len cap) d p) :
    len = 0 ∨ ∃ elems sp : List (DataW H), d = .slice elems sp ∧ elems.length = len := by
  obtain ⟨m, h⟩ := h
  rcases Go.Deep.open_slice ht h with ⟨hcs, _⟩ | ⟨x, len', cap', m', n', D, Pl, hcs, hb, hl1, hl2, hm, hx, hi⟩
  · left
    simp [Value.cells] at hcs
    exact hcs.2.1
  · right
    simp [Value.cells] at hcs
    obtain ⟨rfl, rfl, rfl⟩ := hcs
    injection hx with h1 h2
    exact ⟨_, _, h1, by simp⟩
end Go.Proofs.Ytnmfmjlpfhdgeaa
