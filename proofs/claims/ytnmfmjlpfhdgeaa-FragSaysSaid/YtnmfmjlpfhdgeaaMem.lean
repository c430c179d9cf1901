/- Words for memory: a block known whole; what else may have turned; laws for structs as whole rows. -/
import Derived.Test.YtnmfmjlpfhdgeaaRows1
import Derived.Deep.MidRow
import Derived.Laws.OwnMore
namespace Go.Proofs.Ytnmfmjlpfhdgeaa
open Go.RowKit
set_option linter.unusedVariables false

/-- Block g is just the cells cs, of element type t, none of them frozen. -/
def Blk (w : World) (g : Nat) (t : TypeId) (cs : List Value) : Prop := w.heap[g]? = some (.cells cs.toArray t (0, 0))
/-- Only blocks of S have turned, and new ones have come. -/
structure Only (S : Nat → Prop) (w w' : World) : Prop where
  os : w'.os = w.os
  tape : w'.tape = w.tape
  output : w'.output = w.output
  size : w.heap.size ≤ w'.heap.size
  block : ∀ k, k < w.heap.size → ¬ S k → w'.heap[k]? = w.heap[k]?

section
variable {w w' w'' : World} {g : Nat} {t : TypeId} {cs : List Value} {S S' : Nat → Prop}
theorem Blk.lt (h : Blk w g t cs) : g < w.heap.size := by
  rcases Nat.lt_or_ge g w.heap.size with hlt | hge
  · exact hlt
  · unfold Blk at h; rw [Array.getElem?_eq_none hge] at h; cases h
theorem Blk.cell (h : Blk w g t cs) (i : Nat) : w.cell? ⟨g, i, none⟩ = cs[i]? := by
  rw [cell_of_row w g i cs.toArray t (0, 0) h]
  simp
theorem Blk.at_ (h : Blk w g t cs) {i : Nat} {v : Value} (hv : cs[i]? = some v) : w.cell? ⟨g, i, none⟩ = some v := by rw [h.cell, hv]
theorem Blk.frozen (h : Blk w g t cs) (i : Nat) : w.frozen? ⟨g, i, none⟩ = false := by
  unfold Blk at h
  simp [World.frozen?, h]
theorem Blk.new (w : World) (t : TypeId) (cs : List Value) : Blk (w.alloc (.cells cs.toArray t)) w.heap.size t cs := heap_alloc_new w _
theorem Blk.cast {cs' : List Value} (h : Blk w g t cs) (e : cs = cs') : Blk w g t cs' := e ▸ h
theorem Blk.drew (h : Blk w g t cs) : Blk w.drew g t cs := h
theorem Blk.drewN (h : Blk w g t cs) (n : Nat) : Blk (w.drewN n) g t cs := h
theorem Blk.alloc (h : Blk w g t cs) (o : Obj) : Blk (w.alloc o) g t cs := (Below.heap_alloc w o g h.lt).trans h
theorem Blk.set_ (h : Blk w g t cs) (i : Nat) (u : Value) : Blk (w.setCell ⟨g, i, none⟩ u) g t (cs.set i u) := by
  unfold Blk at h ⊢
  simp [World.setCell, Array.getElem?_modify, h]
theorem Blk.far (h : Blk w g t cs) {p : Addr} (hp : g ≠ p.block) (u : Value) : Blk (w.setCell p u) g t cs := (Below.heap_setCell w p u g hp).trans h
theorem Blk.below {B : Nat} (h : Blk w g t cs) (hb : Below B w w') (hg : g < B) : Blk w' g t cs := (hb.block g hg).trans h
theorem Blk.only (h : Blk w g t cs) (hb : Only S w w') (hg : ¬ S g) : Blk w' g t cs := (hb.block g h.lt hg).trans h
theorem Blk.range (h : Blk w g t cs) : w.rangeAt g 0 cs := fun j v hv => by rw [Nat.zero_add]; exact h.at_ hv
theorem Blk.there (h : Blk w g t cs) : w.there g 0 cs.length := fun j hj => by
  rw [Nat.zero_add]
  exact ⟨by rw [h.cell, List.getElem?_eq_getElem hj]; rfl, h.frozen j⟩

theorem Only.refl (S : Nat → Prop) (w : World) : Only S w w := ⟨rfl, rfl, rfl, Nat.le_refl _, fun _ _ _ => rfl⟩
theorem Only.trans (h : Only S w w') (k : Only S w' w'') : Only S w w'' :=
  ⟨k.os.trans h.os, k.tape.trans h.tape, k.output.trans h.output, Nat.le_trans h.size k.size, fun i hi hs => (k.block i (Nat.lt_of_lt_of_le hi h.size) hs).trans (h.block i hi hs)⟩
theorem Only.mono (h : Only S w w') (hS : ∀ k, k < w.heap.size → S k → S' k) : Only S' w w' :=
  ⟨h.os, h.tape, h.output, h.size, fun i hi hs => h.block i hi fun hk => hs (hS i hi hk)⟩
theorem Only.drew (h : Only S w w') : Only S w w'.drew := ⟨h.os, h.tape, h.output, h.size, h.block⟩
theorem Only.drewN (h : Only S w w') (n : Nat) : Only S w (w'.drewN n) := ⟨h.os, h.tape, h.output, h.size, h.block⟩
theorem Only.alloc (h : Only S w w') (o : Obj) : Only S w (w'.alloc o) :=
  ⟨h.os, h.tape, h.output, Nat.le_trans h.size (by simp), fun i hi hs => (Below.heap_alloc w' o i (Nat.lt_of_lt_of_le hi h.size)).trans (h.block i hi hs)⟩
theorem Only.setCell (h : Only S w w') {p : Addr} (hp : S p.block ∨ w.heap.size ≤ p.block) (u : Value) : Only S w (w'.setCell p u) :=
  ⟨h.os, h.tape, h.output, by simpa [World.setCell] using h.size, fun i hi hs => (Below.heap_setCell w' p u i (by
    rintro rfl
    rcases hp with hp | hp
    · exact hs hp
    · omega)).trans (h.block i hi hs)⟩
theorem Only.here {i : Nat} {u : Value} (h : Only (fun k => k = g) w w') : Only (fun k => k = g) w (w'.setCell ⟨g, i, none⟩ u) := h.setCell (p := ⟨g, i, none⟩) (.inl rfl) u
theorem Only.of_below (h : Below w.heap.size w w') (S : Nat → Prop) : Only S w w' := ⟨h.os, h.tape, h.output, h.size, fun i hi _ => h.block i hi⟩
theorem Only.below {B : Nat} {a : World} (h : Below B a w) (k : Only S w w') (hB : B ≤ w.heap.size) (hS : ∀ i, S i → B ≤ i) : Below B a w' :=
  ⟨k.os.trans h.os, k.tape.trans h.tape, k.output.trans h.output, Nat.le_trans h.size k.size, fun i hi => (k.block i (by omega) fun hs => by have := hS i hs; omega).trans (h.block i hi)⟩
theorem Only.then_below (h : Only S w w') (k : Below w'.heap.size w' w'') : Only S w w'' := h.trans (.of_below k S)
theorem Only.cell (h : Only S w w') {p : Addr} (hl : p.block < w.heap.size) (hs : ¬ S p.block) : w'.cell? p = w.cell? p := World.cell?_of_block (w := w) (h.block p.block hl hs)
theorem Only.frozen (h : Only S w w') {p : Addr} (hl : p.block < w.heap.size) (hs : ¬ S p.block) : w'.frozen? p = w.frozen? p := World.frozen?_of_block (w := w) (h.block p.block hl hs)
theorem Only.range {b o : Nat} (h : Only S w w') {cs : List Value} (hr : w.rangeAt b o cs) (hs : ¬ S b) : w'.rangeAt b o cs := fun j v hv => by
  have := hr j v hv
  rw [h.cell (p := ⟨b, o + j, none⟩) (World.block_lt_of_cell? w _ this) hs]
  exact this
theorem range_below {B b o : Nat} (h : Below B w w') {cs : List Value} (hr : w.rangeAt b o cs) (hb : b < B) : w'.rangeAt b o cs := fun j v hv => by
  rw [h.cell (p := ⟨b, o + j, none⟩) hb]
  exact hr j v hv

/-- A whole struct stored into a variable that has just been laid. -/
theorem setCells_alloc (w : World) (t : TypeId) : ∀ (vs : List Value) (o : Nat) (zs : List Value), o + vs.length = zs.length →
    (w.alloc (.cells zs.toArray t)).setCells w.heap.size o vs = w.alloc (.cells (zs.take o ++ vs).toArray t)
  | [], o, zs, h => by
    simp only [World.setCells, List.append_nil]
    rw [List.take_of_length_le (by simpa using Nat.le_of_eq h.symm)]
  | v :: vs, o, zs, h => by
    rw [World.setCells, World.setCell_alloc_new]
    have h1 := setCells_alloc w t vs (o + 1) (zs.set o v) (by simp only [List.length_cons] at h; simp; omega)
    simp only [List.setIfInBounds_toArray] at h1 ⊢
    rw [h1]
    congr 2
    have hlt : o < zs.length := by simp only [List.length_cons] at h; omega
    rw [List.take_succ_eq_append_getElem (by simpa using hlt), List.take_set_of_le (Nat.le_refl o)]
    simp
end

section
variable {P : Program}
/-- THE STORE of a whole struct into the variable that was laid last: the block then holds just that. -/
theorem wpList_store_new {ops : Array Oper} {rest : List Oper} {op : Oper} {a : Act} {w : World} {Q : Exit → Act → World → Prop} (hgd : op.guard = none) (ty : TypeId) (x y : Operand) (ho : op.op = .store ty x y)
    (zs cs : List Value) (hx : a.eval x = .pointer (some ⟨w.heap.size, 0, none⟩)) (hy : a.eval y = .agg cs.toArray)
    (hl : cs.length = zs.length) (hi : (P.info? ty).map (·.size) = some cs.length) (h1 : ∀ v ∈ cs, v.oneCell' = true)
    (h : wpList P ops Q rest (a.put op.dst undef) (w.alloc (.cells cs.toArray ty))) : wpList P ops Q (op :: rest) a (w.alloc (.cells zs.toArray ty)) := by
  have hb := Blk.new w ty zs
  refine wpList_store_mid hgd ty x y ho w.heap.size 0 cs.toArray hx hy ?_ (by simpa using hi) (all_oneCell_toArray h1) ?_
  · have := hb.there
    rw [← hl] at this
    simpa using this
  · have := setCells_alloc w ty cs 0 zs (by omega)
    simp only [List.take_zero, List.nil_append] at this
    simp only [this]
    exact h
end
end Go.Proofs.Ytnmfmjlpfhdgeaa
