/- A range over a function whose iterator writes boxes of its own. -/
import Derived.RangeFuncNested
import Derived.RangeFuncBound
import Derived.RangeFuncCalls
import Derived.RangeFuncLeaves
import Derived.Shelf.Abstract
import Derived.Shelf.RegionOpen
import Derived.WalkKit
import Derived.OwnWalkIn
import Derived.TacticsInMore
import Derived.LoopNIn
import Derived.LoopIn
import Derived.Test.YtdkgekmjkindmaaDoorAd1
namespace Go.Proofs.YtdkgekmjkindmaaDoor
open Go.RowKit Go.Shelf Go.Lib
set_option linter.unusedVariables false
/-- Whatever lay at or beyond block m lies as it lay. -/
structure Above (m : Nat) (W W' : World) : Prop where
  size : W.heap.size ≤ W'.heap.size
  block : ∀ i, m ≤ i → i < W.heap.size → W'.heap[i]? = W.heap[i]?
theorem Above.refl (m : Nat) (W : World) : Above m W W := ⟨Nat.le_refl _, fun _ _ _ => rfl⟩
theorem Above.trans {m : Nat} {A B C : World} (h : Above m A B) (k : Above m B C) : Above m A C :=
  ⟨Nat.le_trans h.size k.size, fun i h1 h2 => (k.block i h1 (Nat.lt_of_lt_of_le h2 h.size)).trans (h.block i h1 h2)⟩
theorem Above.of_below {m : Nat} {A B : World} (h : Below A.heap.size A B) : Above m A B := ⟨h.size, fun i _ h2 => h.block i h2⟩
theorem Above.setCell {m : Nat} {A B : World} (h : Above m A B) {p : Addr} (hp : p.block < m) (u : Value) : Above m A (B.setCell p u) :=
  h.trans ⟨by simp [World.setCell], fun i h1 _ => Below.heap_setCell _ _ _ _ (by omega)⟩
theorem below_putObj {m l : Nat} {W : World} (h : m ≤ l) (hl : l < W.heap.size) (o : Obj) : Below m W (W.putObj l o) :=
  (Below.refl m W).grown (grownBy_putObj' W l o) (by omega) (fun k e => by cases e; omega)
/-- The blocks from m to c lie as they lay. -/
def Kept (m c : Nat) (W W' : World) : Prop := ∀ i, m ≤ i → i < c → W'.heap[i]? = W.heap[i]?
theorem Kept.trans {m c : Nat} {X Y Z : World} (h : Kept m c X Y) (k : Kept m c Y Z) : Kept m c X Z := fun i h1 h2 => (k i h1 h2).trans (h i h1 h2)
theorem Kept.put {m c l : Nat} (W : World) (o : Obj) (h : c ≤ l) : Kept m c W (W.putObj l o) := fun i _ h2 => World.putObj_heap_other (by omega)
/-- THE ITERATOR's contract: it may write its own boxes, m to c; the round keeps them. -/
def SeqB {α : Type} (F : Fence) (n : Nat) (P : Program) (g : Nat) (lb : Array Value) (encs : α → Array Value) (m c : Nat) (X : α → Prop) (L : World → Prop) (S Sp : List α → Prop) (w0 : World) : Prop :=
  ∀ (l : Nat) (J Jx : List α → World → Prop) (W : World), Below c w0 W → (∀ pre A, J pre A → L A) →
    (∀ pre A B, J pre A → Only (fun i => m ≤ i ∧ i < c) A B → J pre B) →
    (∀ pre x W1, J pre W1 → X x → YieldAt F (n - 1) P l (encs x) W1 fun e W' =>
      (e = .returned (.bool true) ∧ J (pre ++ [x]) W' ∧ Kept m c W1 W') ∨ (e = .returned (.bool false) ∧ Jx (pre ++ [x]) W')) →
    J [] W →
    CallsIn F n P g (#[.func (.yield l) #[] #[]] ++ lb) W fun e W' => (∃ v, e = .returned v) ∧ ((∃ xs, S xs ∧ J xs W') ∨ (∃ pre, Sp pre ∧ Jx pre W'))
/-- How a round's body may end. -/
def bodyB {α : Type} (m : Nat) (I Ix : List α → World → Prop) (xs : List α) (W : World) : Exit → Act → World → Prop
  | .normal, _, W' => Above m W W' ∧ I xs W'
  | .ret, _, W' => Above m W W' ∧ Ix xs W'
  | _, _, _ => False
section
variable {F : Fence} {n : Nat} {P : Program}
/-- THE LAW. -/
theorem range_box {α : Type} {g : Operand} {ps : Array Tmp} {assign body : Code} {Q : Exit → Act → World → Prop} {a : Act} {w : World} {m c : Nat}
    (hro : F.round = none) (h1 : 1 ≤ n) {gf : Nat} {lb : Array Value} (hg : a.eval g = .func (.func gf) #[] lb) (hFg : F.fn gf) (eg : ∀ args w, (callFunc gf args).run P w = .ok (.enter gf args) w)
    {encs : α → Array Value} {X : α → Prop} {L : World → Prop} {S Sp : List α → Prop} (hseq : SeqB F (n - 1) P gf lb encs m c X L S Sp w) (hmc : m ≤ c) (hc : c ≤ w.heap.size) (hps : ∀ x, (encs x).size = ps.size)
    (I Ix : List α → World → Prop) (hI : ∀ s A B, I s A → Below m A B → I s B) (hIx : ∀ s A B, Ix s A → Below m A B → Ix s B) (hL : ∀ s A, I s A → L A) (h0 : I [] w) (a₁ : α → Act)
    (hassign : ∀ (l : Nat) (x : α) (W : World) (K : Act → World → Prop), K (a₁ x) W →
      assign.wpIn (F.inRound l) (n - 1 - 1) P (Exit.then K (fun _ _ _ => False)) { tmps := (ps.zip (encs x)).foldl (fun t (p, v) => t.setIfInBounds p v) a.tmps, defers := [] } W)
    (hbody : ∀ (l : Nat) (pre : List α) (x : α) (W : World), I pre W → X x → body.wpIn (F.inRound l) (n - 1 - 1) P (bodyB m I Ix (pre ++ [x]) W) (a₁ x) W)
    (hdone : ∀ (D : Nat) (xs : List α) (W : World), w.heap.size ≤ D → S xs → I xs W → W.heap[D]? = some (.deferred (some [])) → Q .normal { a with defers := { target := .collected D, args := #[] } :: a.defers } W)
    (hstop : ∀ (D : Nat) (pre : List α) (W : World), w.heap.size ≤ D → Sp pre → Ix pre W → W.heap[D]? = some (.deferred (some [])) → Code.ret.wpIn F n P Q { a with defers := { target := .collected D, args := #[] } :: a.defers } W) :
    (Code.rangeFunc g ps assign body).wpIn F n P Q a w := by
  apply wpIn_rangeFunc
  intro fn hfn
  rw [hro]
  let D := w.heap.size
  let rec' : LoopState → Option Code → Obj := fun st pe => .loop { state := st, pending := pe, fn, tmps := a.tmps, params := ps, assign, body, defers := D }
  obtain ⟨W1, e1⟩ : ∃ W1, (w.alloc (.deferred (some []))).alloc (rec' .ready none) = W1 := ⟨_, rfl⟩
  have below1 : Below w.heap.size w W1 := by
    rw [← e1]
    exact ((Below.refl _ w).alloc (Nat.le_refl _) _).alloc (by rw [World.size_alloc]; omega) _
  have dAt : W1.heap[D]? = some (.deferred (some [])) := by
    rw [← e1]
    exact (Below.heap_alloc _ _ _ (by rw [World.size_alloc]; show w.heap.size < _; omega)).trans (World.alloc_heap_new w _)
  have lAt : W1.heap[D + 1]? = some (rec' .ready none) := by
    rw [← e1]
    have := World.alloc_heap_new (w.alloc (.deferred (some []))) (rec' .ready none)
    rwa [World.size_alloc] at this
  have hm : m ≤ D := Nat.le_trans hmc hc
  refine ⟨D + 1, [{ target := .collected D, args := #[] }], W1, { target := .fn (.func gf) lb, args := #[.func (.yield (D + 1)) #[] #[]] }, W1, gf,
    #[.func (.yield (D + 1)) #[] #[]] ++ lb, W1, ?_, ?_, ?_, ?_, fun _ => h1, ?_⟩
  · rw [← e1]; exact run_enterLoop_outer _ _ _ _ _
  · simp only [resolve, hg]
    simp [go_sem]
  · intro f' hf'
    simp [Target.leads] at hf'
    subst hf'
    exact hFg
  · simp [invoke, go_sem, eg]
  refine (hseq (D + 1) (fun s W => I s W ∧ W.heap[D]? = some (.deferred (some [])) ∧ W.heap[D + 1]? = some (rec' .ready none))
    (fun s W => Ix s W ∧ W.heap[D]? = some (.deferred (some [])) ∧ W.heap[D + 1]? = some (rec' .done (some .ret))) W1 (below1.mono hc) (fun s A q => hL s A q.1) ?_ ?_ ⟨hI _ _ _ h0 (below1.mono hm), dAt, lAt⟩).mono ?_
  · rintro s A B ⟨i1, d1, l1⟩ ho
    have keep : ∀ i o, D ≤ i → A.heap[i]? = some o → B.heap[i]? = some o := fun i o hi ha => (ho.block i (Array.getElem?_eq_some_iff.1 ha).1 (fun q => by have := q.2; have : D = w.heap.size := rfl; omega)).trans ha
    refine ⟨hI _ _ _ i1 ?_, keep _ _ (Nat.le_refl _) d1, keep _ _ (by omega) l1⟩
    have hlt : m < A.heap.size := by have := (Array.getElem?_eq_some_iff.1 d1).1; omega
    exact ho.below (Below.refl m A) (by omega) (fun i q => q.1)
  · rintro pre x W ⟨i1, d1, l1⟩ hx
    have hlt := (Array.getElem?_eq_some_iff.1 l1).1
    refine ⟨fn, _, assign, body, run_yield l1 (hps x), roundIn_of_wpIn hfn (hassign _ x W _ ⟨_, run_beginRound l1 rfl, ?_⟩)⟩
    obtain ⟨W2, e2⟩ : ∃ W2, W.putObj (D + 1) (rec' .busy none) = W2 := ⟨_, rfl⟩
    have b2 : Below m W W2 := by rw [← e2]; exact below_putObj (by omega) hlt _
    have k2 : Kept m c W W2 := by rw [← e2]; exact Kept.put _ _ (by omega)
    have l2 : W2.heap[D + 1]? = some (rec' .busy none) := by rw [← e2]; exact World.putObj_heap_same hlt
    have d2 : W2.heap[D]? = some (.deferred (some [])) := by rw [← e2]; exact (World.putObj_heap_other (by omega)).trans d1
    show body.wpIn (F.inRound (D + 1)) (n - 1 - 1) P _ (a₁ x) (W.putObj (D + 1) (rec' .busy none))
    rw [e2]
    have step : ∀ (j : Option Code) (W3 : World), Above m W2 W3 → (Instr.endRound (D + 1) j).run P W3 = .ok (.bool j.isNone) (W3.putObj (D + 1) (rec' (if j.isNone then .ready else .done) j)) ∧
        D + 1 < W3.heap.size ∧ (W3.putObj (D + 1) (rec' (if j.isNone then .ready else .done) j)).heap[D]? = some (.deferred (some [])) := fun j W3 h3 => by
      have l3 := (h3.block (D + 1) (by omega) (Array.getElem?_eq_some_iff.1 l2).1).trans l2
      have d3 := (h3.block D hm (Array.getElem?_eq_some_iff.1 d2).1).trans d2
      exact ⟨run_endRound j l3, (Array.getElem?_eq_some_iff.1 l3).1, (World.putObj_heap_other (by omega)).trans d3⟩
    refine wpIn_mono (hbody _ pre x W2 (hI _ _ _ i1 b2) hx) ?_
    intro e a3 W3 hp
    match e, hp with
    | .normal, ⟨h3, i3⟩ =>
      obtain ⟨r3, s3, d3⟩ := step none W3 h3
      refine ⟨_, _, r3, .inl ⟨rfl, ⟨hI _ _ _ i3 (below_putObj (by omega) s3 _), d3, World.putObj_heap_same s3⟩, (k2.trans fun i q1 q2 => h3.block i q1 ?_).trans (Kept.put _ _ (by omega))⟩⟩
      have := (Array.getElem?_eq_some_iff.1 d2).1
      have : D = w.heap.size := rfl
      omega
    | .ret, ⟨h3, i3⟩ =>
      obtain ⟨r3, s3, d3⟩ := step (some .ret) W3 h3
      exact ⟨_, _, r3, .inr ⟨rfl, hIx _ _ _ i3 (below_putObj (by omega) s3 _), d3, World.putObj_heap_same s3⟩⟩
  · rintro e W2 ⟨⟨v, rfl⟩, (⟨xs, hS, i2, d2, l2⟩ | ⟨pre, hS, i2, d2, l2⟩)⟩
    · refine ⟨none, _, run_endLoop l2 (by simp), ?_⟩
      exact hdone D xs _ (Nat.le_refl _) hS (hI _ _ _ i2 (below_putObj (by omega) (Array.getElem?_eq_some_iff.1 l2).1 _)) ((World.putObj_heap_other (by omega)).trans d2)
    · refine ⟨some .ret, _, run_endLoop l2 (by simp), ?_⟩
      exact hstop D pre _ (Nat.le_refl _) hS (hIx _ _ _ i2 (below_putObj (by omega) (Array.getElem?_eq_some_iff.1 l2).1 _)) ((World.putObj_heap_other (by omega)).trans d2)
end
end Go.Proofs.YtdkgekmjkindmaaDoor
