/- Regions that draw their order and hold calls which make memory, but whose operations and calls answer one and the same in every world of a class (here: all that was there stays): one walk, in the text's order. Grounded on the library's law of quiet regions. -/
import Derived.Test.YthjigajielhkfaaQuietTail
import Derived.Test.YthjigajielhkfaaMem
namespace Go.Proofs.Ythjigajielhkfaa
open Go.RowKit
set_option linter.unusedVariables false

/-- The worlds in which all that was in w0 stands as it stood. -/
def Kin (w0 : World) : Type := {w : World // Below w0.heap.size w0 w}
instance {w0 : World} : Nonempty (Kin w0) := ⟨⟨w0, Below.refl _ _⟩⟩
def Kin.at_ {w0 : World} (q : Kin w0) : World := q.val
theorem Kin.below {w0 : World} (q : Kin w0) : Below w0.heap.size w0 q.at_ := q.property
theorem Kin.cell {w0 : World} {p : Addr} {v : Value} (h : w0.cell? p = some v) (q : Kin w0) : q.at_.cell? p = some v := (q.below.cell (World.block_lt_of_cell? w0 _ h)).trans h

section
variable {P : Program} {id : Nat} {Q : Exit → Act → World → Prop} {a : Act} {w : World} {l : List Oper}
theorem wp_region_kin (hm : P.follows .mixedOrders = true) (hB : Region.lexB .any l.toArray = true)
    (h : wpQuiet P l.toArray (fun w' => ∃ q : Kin w, w' = q.at_) (fun a' => ∀ q : Kin w, Q .normal a' q.at_) l a) : (Code.region id l.toArray true).wp P Q a w := by
  refine wp_region_quiet (C := fun w' => ∃ q : Kin w, w' = q.at_) hm hB ⟨⟨w.drew, (Below.refl _ _).drew⟩, rfl⟩ ?_
  have e : (fun a' => ∀ w', (∃ q : Kin w, w' = q.at_) → Q .normal a' w') = (fun a' => ∀ q : Kin w, Q .normal a' q.at_) := by
    funext a'
    exact propext ⟨fun h q => h _ ⟨q, rfl⟩, fun h w' ⟨q, hq⟩ => hq ▸ h q⟩
  rw [e]
  simpa using h
theorem wp_region_kin_tail (n : Nat) (hm : P.follows .mixedOrders = true) (hB : Region.lexTailB .any l.toArray n = true)
    (h : wpQuiet P l.toArray (fun w' => ∃ q : Kin w, w' = q.at_) (fun a' => ∀ q : Kin w, wpList P l.toArray Q (l.drop n) a' q.at_) (l.take n) a) : (Code.region id l.toArray true).wp P Q a w := by
  refine wp_region_quiet_tail n (fun w' => ∃ q : Kin w, w' = q.at_) hm hB ⟨⟨w.drew, (Below.refl _ _).drew⟩, rfl⟩ ?_
  have e : (fun a' => ∀ w', (∃ q : Kin w, w' = q.at_) → wpList P l.toArray Q (l.drop n) a' w') = (fun a' => ∀ q : Kin w, wpList P l.toArray Q (l.drop n) a' q.at_) := by
    funext a'
    exact propext ⟨fun h q => h _ ⟨q, rfl⟩, fun h w' ⟨q, hq⟩ => hq ▸ h q⟩
  rw [e]
  exact h

variable {f : FuncId} {args : Array Value} {v : Value}
theorem kin_made {q : Kin w} (h : Calls P f args q.at_ fun e w' => e = .returned v ∧ Below q.at_.heap.size q.at_ w') : Calls P f args q.at_ fun e w'' => e = .returned v ∧ ∃ q' : Kin w, w'' = q'.at_ :=
  h.mono fun _ w'' ⟨he, hb⟩ => ⟨he, ⟨w'', q.below.trans (hb.mono q.below.size)⟩, rfl⟩
theorem kin_drew {q : Kin w} (h : Calls P f args q.at_ fun e w' => e = .returned v ∧ ∃ n, w' = q.at_.drewN n) : Calls P f args q.at_ fun e w'' => e = .returned v ∧ ∃ q' : Kin w, w'' = q'.at_ :=
  kin_made (h.mono fun _ w'' ⟨he, n, hn⟩ => ⟨he, by rw [hn]; exact ⟨rfl, rfl, rfl, Nat.le_refl _, fun _ _ => rfl⟩⟩)
theorem kin_same {q : Kin w} (h : Calls P f args q.at_ fun e w' => e = .returned v ∧ q.at_ = w') : Calls P f args q.at_ fun e w'' => e = .returned v ∧ ∃ q' : Kin w, w'' = q'.at_ :=
  kin_made (h.mono fun _ w'' ⟨he, hn⟩ => ⟨he, by rw [← hn]; exact Below.refl _ _⟩)
end
end Go.Proofs.Ythjigajielhkfaa
