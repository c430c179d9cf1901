/- Words for memory that is only read: a row of cells behind a slice. -/
import Derived.Test.YtnmfmjlpfhdgeaaRows
import Derived.WalkKit
import Derived.WalkSpells
import Derived.WalkLawsBesides
import Derived.Handy
import Derived.Deep.Light
import Derived.Below
import Derived.Lib.Hide
namespace Go.Proofs.Ytnmfmjlpfhdgeaa
open Go.RowKit

theorem ret_int {k : IntKind} {a b : Int} (h : a = b) : Ending.returned (.int k a) = .returned (.int k b) := by rw [h]
theorem ret_bool {a b : Bool} (h : a = b) : Ending.returned (.bool a) = .returned (.bool b) := by rw [h]

/-- The address A leads to the cells xs, in a block that is there already. Nothing is said where xs is empty. -/
def Rd (w : World) (A : Option Addr) (xs : List Value) : Prop :=
  xs = [] ∨ ∃ b off, A = some ⟨b, off, none⟩ ∧ b < w.heap.size ∧ ∀ j u, xs[j]? = some u → w.cell? ⟨b, off + j, none⟩ = some u

theorem Rd.keep {w w' : World} {A : Option Addr} {xs : List Value} (h : Rd w A xs) (hs : w.heap.size ≤ w'.heap.size) (hk : ∀ p : Addr, p.block < w.heap.size → w'.cell? p = w.cell? p) : Rd w' A xs := by
  rcases h with h | ⟨b, off, rfl, hb, hc⟩
  · exact .inl h
  · exact .inr ⟨b, off, rfl, by omega, fun j u hu => (hk _ hb).trans (hc j u hu)⟩
theorem Rd.below {w w' : World} {A : Option Addr} {xs : List Value} (h : Rd w A xs) (hb : Below w.heap.size w w') : Rd w' A xs := h.keep hb.size fun _ hp => hb.cell hp
theorem Rd.drew {w : World} {A : Option Addr} {xs : List Value} (h : Rd w A xs) : Rd w.drew A xs := h
theorem Rd.drewN {w : World} {A : Option Addr} {xs : List Value} (h : Rd w A xs) (n : Nat) : Rd (w.drewN n) A xs := h
theorem Rd.alloc {w : World} {A : Option Addr} {xs : List Value} (h : Rd w A xs) (o : Obj) : Rd (w.alloc o) A xs :=
  h.keep (by simp) fun p hp => World.cell?_alloc_lt w o p hp
theorem Rd.block {w : World} {g : Nat} {xs : List Value} {t : TypeId} {fr : Nat × Nat} (h : w.heap[g]? = some (.cells xs.toArray t fr)) : Rd w (some ⟨g, 0, none⟩) xs := by
  refine .inr ⟨g, 0, rfl, ?_, fun j u hu => ?_⟩
  · rcases Nat.lt_or_ge g w.heap.size with hlt | hge
    · exact hlt
    · rw [Array.getElem?_eq_none hge] at h; cases h
  · rw [Nat.zero_add, cell_of_row w g j _ t fr h]
    simpa using hu

end Go.Proofs.Ytnmfmjlpfhdgeaa
