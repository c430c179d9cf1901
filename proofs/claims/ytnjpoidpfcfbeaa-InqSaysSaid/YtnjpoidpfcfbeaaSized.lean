/- Strings in data that came in are not longer than what memory reaches. -/
import Derived.Test.YtnjpoidpfcfbeaaLeaf
import Derived.Test.YtnjpoidpfcfbeaaSliceSz
namespace Go.Proofs.Ytnjpoidpfcfbeaa
open Go.ChangeShapes Go.WideShapes Go.ChangeAt Go.RowKit
set_option linter.unusedVariables false
variable {H : Type} {enc : TypeId × Value → H} {P : Program} {w : World} {base : Nat} {spare : Nat → Bool} {held : Bool}

def strLe (K : Nat) (v : Value) : Prop := ∀ s : ByteArray, v = .string s → s.size ≤ K
theorem weights_mem_all {e : TypeId} : ∀ {ds : List (DataW H)} {d : DataW H}, d ∈ ds → ∀ n ∈ d.weights P e, n ∈ DataW.weightsAll P e ds
  | d0 :: ds, d, hd, n, hn => by
    simp only [DataW.weightsAll, List.mem_append]
    rcases List.mem_cons.1 hd with rfl | hd
    · exact .inl hn
    · exact .inr (weights_mem_all hd n hn)
theorem struct_sizes {n K : Nat} {cs : List Value} :
    ∀ (fs : List Field) (acc l : List Leaf),
      fs.foldlM (fun acc f => if acc.length = f.offset then (leaves P n f.type).bind fun l => if l.length = P.cellsOf f.type then some (acc ++ l) else none else none) acc = some l →
      (∀ v ∈ cs.take acc.length, strLe K v) → (∀ f ∈ fs, ∀ l, leaves P n f.type = some l → ∀ v ∈ (cs.drop f.offset).take (P.cellsOf f.type), strLe K v) →
      ∀ v ∈ cs.take l.length, strLe K v
  | [], acc, l, h, ha, _ => by
    simp at h
    subst h
    exact ha
  | f :: fs, acc, l, h, ha, hf => by
    rw [List.foldlM_cons] at h
    obtain ⟨acc', h1, h2⟩ := Option.bind_eq_some_iff.1 h
    split at h1
    · rename_i ho
      obtain ⟨lf, h3, h4⟩ := Option.bind_eq_some_iff.1 h1
      split at h4
      · rename_i hl
        injection h4 with h4
        subst h4
        refine struct_sizes fs _ l h2 ?_ (fun g hg => hf g (by simp [hg]))
        intro v hv
        rw [List.length_append, List.take_add] at hv
        rcases List.mem_append.1 hv with hv | hv
        · exact ha v hv
        · rw [ho, hl] at hv
          exact hf f (by simp) lf h3 v hv
      · cases h4
    · cases h1
theorem array_sizes {K : Nat} {cs : List Value} {c : Nat} : ∀ (m : Nat), (∀ i, i < m → ∀ v ∈ (cs.drop (i * c)).take c, strLe K v) → ∀ v ∈ cs.take (m * c), strLe K v
  | 0, _, v, hv => by simp at hv
  | m + 1, h, v, hv => by
    rw [Nat.succ_mul, List.take_add] at hv
    rcases List.mem_append.1 hv with hv | hv
    · exact array_sizes m (fun i hi => h i (by omega)) v hv
    · exact h m (by omega) v hv
theorem trod_sizes {K : Nat} : ∀ (n : Nat) (t : TypeId) (m : Nat) (cs : List Value) (x : DataW H × List MemPlace) (l : List Leaf), leaves P n t = some l → DataW.trod enc P w base spare held m t cs = some x → (∀ k ∈ x.1.weights P t, k ≤ K) → ∀ v ∈ cs, strLe K v
  | 0, _, _, _, _, _, hl, _, _ => by simp [leaves] at hl
  | n + 1, t, m, cs, x, l, hl, h, hw => by
    unfold leaves at hl
    split at hl
    · rename_i k hu
      obtain ⟨a, rfl, _, _⟩ := DataW.trod_int hu h
      intro v hv s e
      rw [List.mem_singleton.1 hv] at e
      cases e
    · rename_i hu
      obtain ⟨a, rfl, _⟩ := DataW.trod_bool hu h
      intro v hv s e
      rw [List.mem_singleton.1 hv] at e
      cases e
    · rename_i hu
      obtain ⟨a, rfl, hx, _⟩ := DataW.trod_string hu h
      intro v hv s e
      rw [List.mem_singleton.1 hv] at e
      injection e with e
      subst e
      refine hw a.size ?_
      rw [hx]
      simp only [DataW.weights, List.mem_singleton]
      rfl
    · rename_i fs hu
      obtain ⟨l', h1, h2⟩ := Option.bind_eq_some_iff.1 hl
      split at h2
      · rename_i hlen
        obtain ⟨xs, m', _, hx, hcl, hxl, hf⟩ := DataW.trod_struct hu h
        have := struct_sizes (P := P) (K := K) (cs := cs) fs.toList [] l' h1 (by simp) (fun f hf' lf hlf => by
          obtain ⟨i, hi, rfl⟩ := List.getElem_of_mem hf'
          have hi' : i < fs.size := by simpa using hi
          have hq := hf i fs[i] (by simp [hi'])
          have hxi : i < xs.length := by omega
          refine trod_sizes n _ m' _ xs[i] lf hlf (by simpa [hxi] using hq) fun k hk => hw k ?_
          rw [hx]
          simp only [DataW.weights, hu]
          exact DataW.weights_mem_each (j := i) (t := fs[i].type) (d := xs[i].1) (by simp [hi']) (by simp [hxi]) k hk)
        rwa [List.take_of_length_le (by omega)] at this
      · cases h2
    · rename_i k e hu
      obtain ⟨l', h1, h2⟩ := Option.bind_eq_some_iff.1 hl
      split at h2
      · rename_i hlen
        obtain ⟨xs, m', _, hx, hcl, hxl, hf⟩ := DataW.trod_array hu h
        have hcl' : cs.length = k * P.cellsOf e := hcl.trans hlen.2
        have := array_sizes (K := K) (cs := cs) (c := P.cellsOf e) k (fun i hi => by
          have hq := hf i hi
          have hxi : i < xs.length := by omega
          refine trod_sizes n e m' _ xs[i] l' h1 (by simpa [hxi] using hq) fun k' hk => hw k' ?_
          rw [hx]
          simp only [DataW.weights, hu]
          exact weights_mem_all (List.mem_map.2 ⟨xs[i], List.getElem_mem hxi, rfl⟩) k' hk)
        rwa [List.take_of_length_le (by omega)] at this
      · cases h2
    · cases hl
/-- A slice of flat data that came in, its strings bounded. -/
theorem open_flat_sz {n K : Nat} {t e : TypeId} {l : List Leaf} {a : Option Addr} {len cap : Nat} {d : DataW H} {p : List MemPlace}
    (ht : P.underlying t = some (.slice e)) (hl : leaves P n e = some l) (hc : l.length = P.cellsOf e) (hpos : 0 < l.length) (h : DataW.Trod enc P w base spare held t (.slice a len cap) d p) (hw : ∀ k ∈ d.weights P t, k ≤ K) :
    (a = none ∧ len = 0 ∧ cap = 0) ∨ ∃ x : Addr, a = some x ∧ len ≤ cap ∧ cap ≤ maxLen ∧ (0 < len → x.spot = none ∧ x.block < w.heap.size) ∧
      ∃ C : Nat → List Value, ∀ i, i < len → (leafAll l (C i) ∧ ∀ v ∈ C i, strLe K v) ∧ ∀ j u, (C i)[j]? = some u → w.cell? (x.add (i * l.length + j)) = some u := by
  obtain ⟨m, h⟩ := h
  rcases Go.Deep.open_slice ht h with ⟨hcs, _⟩ | ⟨x, len', cap', m', n', D, Pl, hcs, hb, hl1, hl2, hm, hx, hi⟩
  · left
    simp [Value.cells] at hcs
    exact hcs
  · right
    simp [Value.cells] at hcs
    obtain ⟨rfl, rfl, rfl⟩ := hcs
    injection hx with hd _
    have hlm : len ≤ m' := by rw [hm]; split <;> omega
    have key : ∀ i, i < len → ∃ cs : List Value, (leafAll l cs ∧ ∀ v ∈ cs, strLe K v) ∧ ∀ j u, cs[j]? = some u → w.cell? (x.add (i * l.length + j)) = some u := by
      intro i hi'
      obtain ⟨cs', hcells, htr⟩ := hi i (by omega)
      refine ⟨cs', ⟨trod_leaves n e n' cs' _ l hl htr, trod_sizes n e n' cs' _ l hl htr fun k hk => hw k ?_⟩, fun j u hu => ?_⟩
      · rw [hd]
        simp only [DataW.weights, ht, List.mem_cons, List.mem_append]
        exact .inr (.inl (weights_mem_all (List.mem_map.2 ⟨i, List.mem_range.2 hi', rfl⟩) k hk))
      obtain ⟨_, hlen, hcell⟩ := World.cells?_some hcells
      have hj : j < cs'.length := by
        rcases Nat.lt_or_ge j cs'.length with h0 | h0
        · exact h0
        · rw [List.getElem?_eq_none h0] at hu; cases hu
      have := hcell j (by omega)
      rw [Go.Deep.add_add, ← hc] at this
      rw [this, hu]
    obtain ⟨C, hC⟩ := Go.Deep.choose_lt key
    refine ⟨x, rfl, hl1, hl2, fun h0 => ?_, C, hC⟩
    obtain ⟨hlf, hcell⟩ := hC 0 h0
    have hlen := leafAll_length hlf.1
    have hc0 := hcell 0 ((C 0)[0]'(by omega)) (List.getElem?_eq_getElem (by omega))
    simp [Addr.add] at hc0
    exact ⟨by simpa using World.cell?_spot hc0, World.block_lt_of_cell? w _ hc0⟩
/-- As 'open_flat_sz' gives it. -/
abbrev OpenedK (K : Nat) (l : List Leaf) (w : World) (a : Option Addr) (len cap : Nat) : Prop :=
  (a = none ∧ len = 0 ∧ cap = 0) ∨ ∃ x : Addr, a = some x ∧ len ≤ cap ∧ cap ≤ maxLen ∧ (0 < len → x.spot = none ∧ x.block < w.heap.size) ∧
    ∃ C : Nat → List Value, ∀ i, i < len → (leafAll l (C i) ∧ ∀ v ∈ C i, strLe K v) ∧ ∀ j u, (C i)[j]? = some u → w.cell? (x.add (i * l.length + j)) = some u
theorem came_ofK {K : Nat} {l : List Leaf} {w : World} {a : Option Addr} {len cap : Nat} (o : OpenedK K l w a len cap) : ∃ C : Nat → List Value, ∀ i, i < len → ∃ b off, Value.slice a len cap = .slice (some ⟨b, off, none⟩) len cap ∧ leafAll l (C i) ∧ (∀ v ∈ C i, strLe K v) ∧ w.rangeAt b (off + i * l.length) (C i) := by
  rcases o with ⟨rfl, rfl, _⟩ | ⟨x, rfl, hl, hc, h0, C, hC⟩
  · exact ⟨fun _ => [], fun i hi => by omega⟩
  · refine ⟨C, fun i hi => ?_⟩
    obtain ⟨hs, hb⟩ := h0 (by omega)
    obtain ⟨b, off, spot⟩ := x
    simp only at hs hb
    subst hs
    refine ⟨b, off, rfl, (hC i hi).1.1, (hC i hi).1.2, fun j v hv => ?_⟩
    have := (hC i hi).2 j v hv
    rw [Addr.add_mid, ← Nat.add_assoc] at this
    exact this
end Go.Proofs.Ytnjpoidpfcfbeaa
