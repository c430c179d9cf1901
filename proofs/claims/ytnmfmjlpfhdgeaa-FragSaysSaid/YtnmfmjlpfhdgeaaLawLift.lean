/- A law that answers one bool and leaves below its heap all as it was: from its walk to the row's step, whatever its parameters; flat data (structs, arrays of numbers, bools, strings) opened cell by cell. -/
import Derived.Test.YtnmfmjlpfhdgeaaRows
import Derived.WalkKit
import Derived.ProofKit
import Derived.OpenShut
import Derived.Below
import Derived.Carry
import Derived.SizedLaws
import Derived.Deep.Slices
namespace Go.Proofs.Ytnmfmjlpfhdgeaa
open Go.ChangeShapes Go.WideShapes Go.ChangeAt Go.RowKit

theorem own : ownKnob Try.prog.godebug = none := by kernel_rfl
theorem laidOut : laidOutB Try.prog = true := by kernel_rfl

section
variable {H : Type} {enc : TypeId × Value → H} {P : Program}

/-- All arguments read as they did, where nothing below the heap's old size has turned. -/
theorem trodAll_below (hl : laidOutB P = true) {W W' : World} (hb : Below W.heap.size W W') :
    ∀ {ts : List TypeId} {vs : List Value} {ds : List (DataW H)} {ps : List MemPlace},
    ts.all (fun t => P.readableRec t && decide (t < P.types.size)) = true → DataW.TrodAll enc P W 0 (fun _ => true) true ts vs ds ps →
    DataW.TrodAll enc P W' 0 (fun b => decide (b < W.heap.size)) true ts vs ds ps
  | [], vs, ds, ps, _, h => by
    obtain ⟨rfl, rfl, rfl⟩ := trodAll_nil h
    rfl
  | t :: ts, vs, ds, ps, ha, h => by
    obtain ⟨v, vs', d, ds', p, q, rfl, rfl, rfl, h1, h2⟩ := trodAll_cons h
    simp only [List.all_cons, Bool.and_eq_true, decide_eq_true_eq] at ha
    have hlt : ∀ x ∈ p, x.block < W.heap.size := by obtain ⟨m, hm⟩ := h1; exact DataW.trod_lt m _ _ _ hm
    exact trodAll_cons_mk (Below.trod hl ha.1.1 ha.1.2 h1 hb hlt) (trodAll_below hl hb ha.2 h2)

theorem trodAll_length {w : World} {base : Nat} {spare : Nat → Bool} {held : Bool} :
    ∀ {ts : List TypeId} {vs : List Value} {ds : List (DataW H)} {ps : List MemPlace}, DataW.TrodAll enc P w base spare held ts vs ds ps → ds.length = ts.length
  | [], vs, ds, ps, h => by
    obtain ⟨rfl, rfl, rfl⟩ := trodAll_nil h
    rfl
  | t :: ts, vs, ds, ps, h => by
    obtain ⟨v, vs', d, ds', p, q, rfl, rfl, rfl, h1, h2⟩ := trodAll_cons h
    simp [trodAll_length h2]

/-- THE STEP. What is left: at any world and any arguments that read as data: the call returns true, and below the heap's old size nothing turns. -/
theorem lift_law {C : Checked} {os : Os} {f : FuncId} {fn : Func} {s : ChangeSpec} {tb : TypeId} (own : ownKnob C.prog.godebug = none) (hl : laidOutB C.prog = true) (started : os.Started)
    (noInit : C.prog.inits.idxOf? f = none) (hfn : C.prog.funcs[f]? = some fn)
    (witness : ∃ (w : World) (tape : Tape) (i : Input), w.os = os ∧ (w.forCall tape i).Shaped C.prog ∧ i.vars = [] ∧ Input.okWide C.prog (w.forCall tape i) .any w.heap.size f i ∧
      s.pre6 enc C.prog fn [] false (w.forCall tape i).memory i.args ∧ ({} : Assume).holds C.prog (lone (Frame.enter C.prog f i.args .normal) [] (w.forCall tape i)))
    (hall : fn.params.toList.all (fun t => C.prog.readableRec t && decide (t < C.prog.types.size)) = true)
    (hres : fn.resultTypes.toList = [tb]) (hbool : C.prog.underlying tb = some .bool) (hvars : s.vars = [])
    (hspec : ∀ ds : List (DataW H), ds.length = fn.params.toList.length → (s.fn H (ds ++ [])).results = [.lit (.bool true)] ∧ (s.fn H (ds ++ [])).args = ds ∧ (s.fn H (ds ++ [])).vars = [])
    (walk : ∀ (W : World) (base : Nat) (args : Array Value) (ds : List (DataW H)) (p : List MemPlace),
      (∀ (j : Nat) t v, fn.params[j]? = some t → args[j]? = some v → Value.okWide C.prog W .any base t v) →
      DataW.TrodAll enc C.prog W 0 (fun _ => true) true fn.params.toList args.toList ds p →
      (DataW.weightsEach C.prog fn.params.toList ds).all (· ≤ reachBytes) = true →
      Calls C.prog f args W fun e W' => e = .returned (.bool true) ∧ Below W.heap.size W W') :
    ReturnsInHanded {} C os f .any (s.pre6 enc C.prog fn [] false) (s.post enc C.prog fn false true false false) := by
  refine returnsInHanded_of_change_sized own started noInit hfn witness ?_
  intro W base args ds gs before hval hW _ hsz _
  obtain ⟨p, q, hA, hV, rfl, hfz, hnd⟩ := id hW
  rw [hvars] at hV
  obtain ⟨rfl, rfl⟩ := trodVars_none hV
  have hlen : ds.length = fn.params.toList.length := trodAll_length hA
  have hz : (DataW.weightsEach C.prog fn.params.toList ds).all (· ≤ reachBytes) = true := by
    have h0 : s.plain.varTypes C.prog = [] := by simp [DataSpec.varTypes, ChangeSpec.plain, hvars]
    simpa [h0] using hsz
  obtain ⟨e1, e2, e3⟩ := hspec ds hlen
  refine (walk W base args ds p hval hA hz).mono fun e W' ⟨he, bel⟩ => ?_
  subst he
  have hr1 : fn.resultTypes.size = 1 := by have := congrArg List.length hres; simpa using this
  refine ⟨_, rfl, ds, [], _, [], p, [], hW, ?_, ?_, ?_, bel.frame _, fun h => by cases h⟩
  · rw [e1, hres, hr1]
    exact trodAll_mk1 (shut_bool hbool _)
  · rw [e2]
    exact trodAll_below hl bel hall hA
  · rw [e3, hvars]
    rfl
end

/-! ### Flat data -/
abbrev Leaf := Option (Option IntKind)      -- a number of a kind; a bool (some none); a string (none)

def leafOK : Leaf → Value → Prop
  | some (some k), v => ∃ n, v = .int k n ∧ (Lit.int k n).wf = true
  | some none, v => ∃ b, v = .bool b
  | none, v => ∃ s : ByteArray, v = .string s ∧ s.size ≤ maxLen

def leafAll : List Leaf → List Value → Prop
  | [], [] => True
  | l :: ls, v :: vs => leafOK l v ∧ leafAll ls vs
  | _, _ => False

theorem leafAll_append : ∀ {l1 l2 : List Leaf} {v1 v2 : List Value}, leafAll l1 v1 → leafAll l2 v2 → leafAll (l1 ++ l2) (v1 ++ v2)
  | [], _, [], _, _, h => h
  | _ :: _, _, _ :: _, _, h1, h2 => ⟨h1.1, leafAll_append h1.2 h2⟩
  | [], _, _ :: _, _, h, _ => h.elim
  | _ :: _, _, [], _, h, _ => h.elim

theorem leafAll_length : ∀ {l : List Leaf} {v : List Value}, leafAll l v → v.length = l.length
  | [], [], _ => rfl
  | _ :: _, _ :: _, h => by simp [leafAll_length h.2]
  | [], _ :: _, h => h.elim
  | _ :: _, [], h => h.elim

/-- The leaves of a flat type, in the order of its cells; none where it is not flat. -/
def leaves (P : Program) : Nat → TypeId → Option (List Leaf)
  | 0, _ => none
  | n + 1, t => match P.underlying t with
    | some (.int k) => some [some (some k)]
    | some .bool => some [some none]
    | some .string => some [none]
    | some (.struct fs) => fs.toList.foldlM (fun acc f => if acc.length = f.offset then (leaves P n f.type).bind fun l => if l.length = P.cellsOf f.type then some (acc ++ l) else none else none) [] |>.bind fun l => if l.length = P.cellsOf t then some l else none
    | some (.array m e) => (leaves P n e).bind fun l => if l.length = P.cellsOf e ∧ P.cellsOf t = m * P.cellsOf e then some (List.replicate m l).flatten else none
    | _ => none

section
variable {H : Type} {enc : TypeId × Value → H} {P : Program} {w : World} {base : Nat} {spare : Nat → Bool} {held : Bool}

theorem struct_leaves {n : Nat} {cs : List Value} (ih : ∀ (t : TypeId) (m : Nat) (cs : List Value) (x : DataW H × List MemPlace) (l : List Leaf), leaves P n t = some l → DataW.trod enc P w base spare held m t cs = some x → leafAll l cs) :
    ∀ (fs : List Field) (acc l : List Leaf), 
      fs.foldlM (fun acc f => if acc.length = f.offset then (leaves P n f.type).bind fun l => if l.length = P.cellsOf f.type then some (acc ++ l) else none else none) acc = some l →
      leafAll acc (cs.take acc.length) → (∀ f ∈ fs, ∃ (m : Nat) (x : DataW H × List MemPlace), DataW.trod enc P w base spare held m f.type ((cs.drop f.offset).take (P.cellsOf f.type)) = some x) →
      leafAll l (cs.take l.length)
  | [], acc, l, h, ha, _ => by
    simp at h
    subst h
    exact ha
  | f :: fs, acc, l, h, ha, hf => by
    rw [List.foldlM_cons] at h
    obtain ⟨acc', h1, h2⟩ := Option.bind_eq_some_iff.1 h
    split at h1
    · rename_i ho
      obtain ⟨lf, h3, h4⟩ := Option.bind_eq_some_iff.1 h1
      split at h4
      · rename_i hl
        injection h4 with h4
        subst h4
        obtain ⟨m, x, hx⟩ := hf f (by simp)
        have hlf := ih _ m _ x lf h3 hx
        refine struct_leaves ih fs _ l h2 ?_ (fun g hg => hf g (by simp [hg]))
        rw [List.length_append, List.take_add]
        refine leafAll_append ha ?_
        rw [ho, hl]
        exact hlf
      · cases h4
    · cases h1

theorem leaves_len_le : ∀ {l : List Leaf} {cs : List Value}, leafAll l (cs.take l.length) → l.length ≤ cs.length := fun {l cs} h => by
  have := leafAll_length h
  simp at this
  omega

theorem array_leaves {cs : List Value} {l : List Leaf} {c : Nat} (hc : l.length = c) : ∀ (m : Nat), (∀ i, i < m → leafAll l ((cs.drop (i * c)).take c)) → leafAll (List.replicate m l).flatten (cs.take (m * c))
  | 0, _ => by simp; trivial
  | m + 1, h => by
    have h1 := array_leaves hc m (fun i hi => h i (by omega))
    rw [List.replicate_succ', List.flatten_concat, Nat.succ_mul, List.take_add]
    exact leafAll_append h1 (h m (by omega))

theorem trod_leaves : ∀ (n : Nat) (t : TypeId) (m : Nat) (cs : List Value) (x : DataW H × List MemPlace) (l : List Leaf), leaves P n t = some l → DataW.trod enc P w base spare held m t cs = some x → leafAll l cs
  | 0, _, _, _, _, _, hl, _ => by simp [leaves] at hl
  | n + 1, t, m, cs, x, l, hl, h => by
    unfold leaves at hl
    split at hl
    · rename_i k hu
      injection hl with hl
      subst hl
      obtain ⟨a, rfl, _, hw⟩ := DataW.trod_int hu h
      exact ⟨⟨a, rfl, hw⟩, trivial⟩
    · rename_i hu
      injection hl with hl
      subst hl
      obtain ⟨a, rfl, _⟩ := DataW.trod_bool hu h
      exact ⟨⟨a, rfl⟩, trivial⟩
    · rename_i hu
      injection hl with hl
      subst hl
      obtain ⟨a, rfl, _, hw⟩ := DataW.trod_string hu h
      exact ⟨⟨a, rfl, hw⟩, trivial⟩
    · rename_i fs hu
      obtain ⟨l', h1, h2⟩ := Option.bind_eq_some_iff.1 hl
      split at h2
      · rename_i hlen
        injection h2 with h2
        subst h2
        obtain ⟨xs, m', _, _, hcl, hxl, hf⟩ := DataW.trod_struct hu h
        have hg : ∀ f ∈ fs.toList, ∃ (m : Nat) (x : DataW H × List MemPlace), DataW.trod enc P w base spare held m f.type ((cs.drop f.offset).take (P.cellsOf f.type)) = some x := by
          intro f hf'
          obtain ⟨i, hi, rfl⟩ := List.getElem_of_mem hf'
          have hi' : i < fs.size := by simpa using hi
          have := hf i fs[i] (by simp [hi'])
          have hx : i < xs.length := by omega
          exact ⟨m', xs[i], by simpa [hx] using this⟩
        have := struct_leaves (cs := cs) (fun t m cs x l => trod_leaves n t m cs x l) fs.toList [] l' h1 (by simp; trivial) hg
        rwa [List.take_of_length_le (by omega)] at this
      · cases h2
    · rename_i k e hu
      obtain ⟨l', h1, h2⟩ := Option.bind_eq_some_iff.1 hl
      split at h2
      · rename_i hlen
        injection h2 with h2
        subst h2
        obtain ⟨xs, m', _, _, hcl, hxl, hf⟩ := DataW.trod_array hu h
        have hcl' : cs.length = k * P.cellsOf e := hcl.trans hlen.2
        have := array_leaves (cs := cs) hlen.1 k (fun i hi => by
          have := hf i hi
          have hx : i < xs.length := by omega
          exact trod_leaves n e m' _ xs[i] l' h1 (by simpa [hx] using this))
        rwa [List.take_of_length_le (by omega)] at this
      · cases h2
    · cases hl

/-- A slice of flat data that came in: nil, or its elements' cells. -/
theorem open_flat {n : Nat} {t e : TypeId} {l : List Leaf} {a : Option Addr} {len cap : Nat} {d : DataW H} {p : List MemPlace}
    (ht : P.underlying t = some (.slice e)) (hl : leaves P n e = some l) (hc : l.length = P.cellsOf e) (hpos : 0 < l.length) (h : DataW.Trod enc P w base spare held t (.slice a len cap) d p) :
    (a = none ∧ len = 0 ∧ cap = 0) ∨ ∃ x : Addr, a = some x ∧ len ≤ cap ∧ cap ≤ maxLen ∧ (0 < len → x.spot = none ∧ x.block < w.heap.size) ∧
      ∃ C : Nat → List Value, ∀ i, i < len → leafAll l (C i) ∧ ∀ j u, (C i)[j]? = some u → w.cell? (x.add (i * l.length + j)) = some u := by
  obtain ⟨m, h⟩ := h
  rcases Go.Deep.open_slice ht h with ⟨hcs, _⟩ | ⟨x, len', cap', m', n', D, Pl, hcs, hb, hl1, hl2, hm, hx, hi⟩
  · left
    simp [Value.cells] at hcs
    exact hcs
  · right
    simp [Value.cells] at hcs
    obtain ⟨rfl, rfl, rfl⟩ := hcs
    have hlm : len ≤ m' := by rw [hm]; split <;> omega
    have key : ∀ i, i < len → ∃ cs : List Value, leafAll l cs ∧ ∀ j u, cs[j]? = some u → w.cell? (x.add (i * l.length + j)) = some u := by
      intro i hi'
      obtain ⟨cs', hcells, htr⟩ := hi i (by omega)
      refine ⟨cs', trod_leaves n e n' cs' _ l hl htr, fun j u hu => ?_⟩
      obtain ⟨_, hlen, hcell⟩ := World.cells?_some hcells
      have hj : j < cs'.length := by
        rcases Nat.lt_or_ge j cs'.length with h0 | h0
        · exact h0
        · rw [List.getElem?_eq_none h0] at hu; cases hu
      have := hcell j (by omega)
      rw [Go.Deep.add_add, ← hc] at this
      rw [this, hu]
    obtain ⟨C, hC⟩ := Go.Deep.choose_lt key
    refine ⟨x, rfl, hl1, hl2, fun h0 => ?_, C, hC⟩
    obtain ⟨hlf, hcell⟩ := hC 0 h0
    have hlen := leafAll_length hlf
    have hc0 := hcell 0 ((C 0)[0]'(by omega)) (List.getElem?_eq_getElem (by omega))
    simp [Addr.add] at hc0
    exact ⟨by simpa using World.cell?_spot hc0, World.block_lt_of_cell? w _ hc0⟩

/-- A flat struct by value. -/
theorem open_flat_val {n : Nat} {t : TypeId} {l : List Leaf} {v : Value} {d : DataW H} {p : List MemPlace}
    (hl : leaves P n t = some l) (h : DataW.Trod enc P w base spare held t v d p) : leafAll l v.cells.toList := by
  obtain ⟨m, h⟩ := h
  exact trod_leaves n t m _ _ l hl h
end
end Go.Proofs.Ytnmfmjlpfhdgeaa
