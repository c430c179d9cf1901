/- Regions that draw their order: quiet operations in the class of worlds that keep what was there (calls may make memory), one variable that is laid at any time among them, then a tail in one forced order. One walk of the text's order serves. -/
import Derived.Test.YthjigajielhkfaaQuietC
namespace Go.Proofs.Ythjigajielhkfaa
open Go.RowKit
set_option linter.unusedVariables false

section
variable {P : Program} {ops : Array Oper}

theorem put_getD_ne (a : Act) (x : Option Tmp) (v : Value) (d : Nat) (h : x ≠ some d) : (a.put x v).tmps.getD d undef = a.tmps.getD d undef := by
  cases x with
  | none => rfl
  | some e =>
    have hne : e ≠ d := fun k => h (by rw [k])
    simp [Act.put, Array.getD_eq_getD_getElem?, Array.getElem?_setIfInBounds_ne hne]
theorem put_getD_same (a : Act) (v : Value) (d : Nat) (h : d < a.tmps.size) : (a.put (some d) v).tmps.getD d undef = v := by
  simp [Act.put, Array.getD_eq_getD_getElem?, h]
theorem put_out (a : Act) (v : Value) (d : Nat) (h : a.tmps.size ≤ d) : a.put (some d) v = a := by
  simp only [Act.put]
  rw [Array.setIfInBounds_eq_of_size_le h]
theorem put_size (a : Act) (x : Option Tmp) (v : Value) : (a.put x v).tmps.size = a.tmps.size := by
  cases x <;> simp [Act.put]

/-- What is in a slot that no operation to come writes stays to the end. -/
theorem slot_kept {n : Nat} {C : World → Prop} {A : Act} {Lt : Array Bool → Prop} {d : Nat} : ∀ (f : Nat) (listed : Array Bool) (a : Act),
    (∀ j oj, ops[j]? = some oj → j < n → listed.getD j true = false → oj.dst ≠ some d) →
    HeadQ P ops C n (fun l' a' => a' = A ∧ Lt l') f listed a → a.tmps.getD d undef = A.tmps.getD d undef := by
  intro f
  induction f with
  | zero =>
    intro listed a _ h
    rw [h.1]
  | succ f ih =>
    intro listed a hd h
    obtain ⟨i, hi⟩ := List.exists_mem_of_ne_nil _ h.1
    obtain ⟨hin, hq⟩ := h.2 i hi
    obtain ⟨hun, oi, hoi, _⟩ := mem_ready.1 hi
    obtain ⟨v, _, hK⟩ := yieldsIn_of_qOp hoi hq
    have h1 := ih _ _ (fun j oj hoj hj hu => by
      by_cases hji : i = j
      · subst hji
        rw [getD_set_same' hun] at hu
        cases hu
      · rw [getD_set_ne true hji] at hu
        exact hd j oj hoj hj hu) hK
    rw [← h1, put_getD_ne _ _ _ _ (hd i oi hoi hin hun)]
where
  getD_set_same' {listed : Array Bool} {i : Nat} (h : listed.getD i true = false) : (listed.setIfInBounds i true).getD i true = true := by
    simp [Array.getD_eq_getD_getElem?, Array.getElem?_setIfInBounds]
    split <;> simp

theorem listed_same {listed : Array Bool} {i : Nat} : (listed.setIfInBounds i true).getD i true = true := by
  simp [Array.getD_eq_getD_getElem?, Array.getElem?_setIfInBounds]
  split <;> simp

/-- No two operations of the head leave their values in one slot. -/
def distinctB (ops : Array Oper) (n : Nat) : Bool := (List.range n).all fun i => (List.range n).all fun j => decide (i = j) || (match ops[i]?, ops[j]? with
  | some x, some y => x.dst.isNone || x.dst != y.dst
  | _, _ => true)
theorem distinct_spec {n i j : Nat} (h : distinctB ops n = true) (hi : i < n) (hj : j < n) (hne : i ≠ j) {x y : Oper} (hx : ops[i]? = some x) (hy : ops[j]? = some y) {d : Tmp} (hd : x.dst = some d) : y.dst ≠ some d := by
  unfold distinctB at h
  rw [List.all_eq_true] at h
  have h1 := h i (List.mem_range.2 hi)
  rw [List.all_eq_true] at h1
  have h2 := h1 j (List.mem_range.2 hj)
  simp only [hx, hy, decide_eq_false hne, Bool.false_or, hd, Option.isNone_some, bne_iff_ne, ne_eq] at h2
  exact fun e => h2 e.symm

theorem runs_alloc {n g k : Nat} {dk : Tmp} {ok : Oper} {C0 : World → Prop} {Cp : Nat → World → Prop} {A : Value → Act} {v0 : Value} {Q : Exit → Act → World → Prop}
    (hs : Region.sinkB .any ops n = true) (hc : Region.chainB .any ops n = true) (hn : n < ops.size) (hk : k < n) (hok : ops[k]? = some ok) (hdk : ok.dst = some dk) (hdis : distinctB ops n = true)
    (hkr : ∀ listed : Array Bool, listed.getD k true = false → k ∈ Region.ready .any ops listed)
    (hal : ∀ (a : Act) (w : World) (K : Act → World → Prop), C0 w → (∀ p w', Cp p w' → K (a.put (some dk) (.pointer (some ⟨p, 0, none⟩))) w') → wpOp P ops Q k K a w)
    (hA : ∀ v v', A v = (A v').put (some dk) v)
    (hL : ∀ p listed w, Cp p w → Region.seqB .any ops g n listed = true → wpAny P .any ops Q g listed (A (.pointer (some ⟨p, 0, none⟩))) w) :
    ∀ (f : Nat) (lr : Array Bool) (a : Act) (w : World), HeadInv .any ops n lr → lr.getD k true = false → C0 w →
      HeadQ P ops C0 n (fun l' a' => a' = A v0 ∧ Region.seqB .any ops g n l' = true) f (lr.setIfInBounds k true) a →
      (∀ p, (∃ w', Cp p w') → HeadQ P ops (Cp p) n (fun l' a' => a' = A (.pointer (some ⟨p, 0, none⟩)) ∧ Region.seqB .any ops g n l' = true) f (lr.setIfInBounds k true) (a.put (some dk) (.pointer (some ⟨p, 0, none⟩)))) →
      wpAny P .any ops Q (f + g + 1) lr a w := by
  intro f
  induction f with
  | zero =>
    intro lr a w inv hun hw H0 Hp
    refine ⟨fun h => absurd (hkr lr hun) (by rw [h]; exact List.not_mem_nil), fun i hi => ?_⟩
    by_cases hik : i = k
    · subst hik
      refine hal a w _ hw fun p w' hw' => ?_
      have h := Hp p ⟨w', hw'⟩
      rw [h.1, Nat.zero_add]
      exact hL p _ w' hw' h.2
    · exfalso
      have h1 := seqB_ready H0.2 i (ready_mono hi hik)
      exact tail_waits hs hc hn inv _ k rfl hk hun i h1 hi
  | succ f ih =>
    intro lr a w inv hun hw H0 Hp
    refine ⟨fun h => absurd (hkr lr hun) (by rw [h]; exact List.not_mem_nil), fun i hi => ?_⟩
    by_cases hik : i = k
    · subst hik
      refine hal a w _ hw fun p w' hw' => ?_
      exact HeadQ.runs (C := Cp p) (fun listed a1 w1 hw1 h1 => by rw [h1.1]; exact hL p _ w1 hw1 h1.2) (f + 1) _ _ w' hw' (Hp p ⟨w', hw'⟩)
    · have hi' := ready_mono (i := k) hi hik
      obtain ⟨hin, hq⟩ := H0.2 i hi'
      obtain ⟨hiun, oi, hoi, _⟩ := mem_ready.1 hi
      obtain ⟨v, hy, hK⟩ := yieldsIn_of_qOp hoi hq
      have hcomm : ∀ l : Array Bool, (l.setIfInBounds k true).setIfInBounds i true = (l.setIfInBounds i true).setIfInBounds k true := fun l => Array.setIfInBounds_comm _ _ (Ne.symm hik)
      refine wpOp_of_qOp (C := C0) hw (fun a' w' hw' (ha : a' = a.put oi.dst v) => ?_) (YieldsIn.qOp hoi hy (K := fun a' => a' = a.put oi.dst v) rfl)
      subst ha
      rw [show f + 1 + g = f + g + 1 from by omega]
      refine ih (lr.setIfInBounds i true) _ w' (inv.set hi hin) ?_ hw' (by rw [← hcomm]; exact hK) (fun p hne => ?_)
      · rw [getD_set_ne true hik]; exact hun
      · obtain ⟨_, hqp⟩ := (Hp p hne).2 i hi'
        obtain ⟨v', _, hK'⟩ := yieldsIn_of_qOp hoi hqp
        have hdi : oi.dst ≠ some dk := fun e => distinct_spec hdis hin hk hik hoi hok e hdk
        have hside : ∀ d, oi.dst = some d → ∀ j oj, ops[j]? = some oj → j < n → ((lr.setIfInBounds k true).setIfInBounds i true).getD j true = false → oj.dst ≠ some d := by
          intro d hd j oj hoj hj hu
          by_cases hji : i = j
          · subst hji
            rw [listed_same] at hu
            cases hu
          · exact distinct_spec hdis hin hj hji hoi hoj hd
        have heq : (a.put oi.dst v).put (some dk) (.pointer (some ⟨p, 0, none⟩)) = (a.put (some dk) (.pointer (some ⟨p, 0, none⟩))).put oi.dst v' := by
          cases hd : oi.dst with
          | none => rfl
          | some d =>
            have hddk : (some d : Option Tmp) ≠ some dk := by rw [← hd]; exact hdi
            by_cases hsz : d < a.tmps.size
            · have h1 := slot_kept f _ _ (hside d hd) hK
              have h2 := slot_kept f _ _ (hside d hd) hK'
              rw [hd, put_getD_same _ _ _ hsz] at h1
              rw [hd, put_getD_same _ _ _ (by rw [put_size]; exact hsz)] at h2
              have h3 : (A (.pointer (some ⟨p, 0, none⟩))).tmps.getD d undef = (A v0).tmps.getD d undef := by
                rw [hA _ v0, put_getD_ne _ _ _ _ (fun e => hddk e.symm)]
              have hvv : v = v' := by rw [h1, h2, h3]
              subst hvv
              exact Act.put_comm _ _ _ (fun e he => by injection he with he; subst he; exact fun e2 => hddk e2.symm)
            · rw [put_out a v d (Nat.le_of_not_lt hsz), put_out (a.put (some dk) _) v' d (by rw [put_size]; exact Nat.le_of_not_lt hsz)]
        rw [heq, ← hcomm]
        exact hK'

def lexHeadA (ops : Array Oper) (g n : Nat) : Nat → Nat → Array Bool → Bool
  | 0, _, listed => Region.seqB .any ops g n listed
  | f + 1, k, listed => (Region.ready .any ops listed).contains k && Region.free .any ops listed k && lexHeadA ops g n f (k + 1) (listed.setIfInBounds k true)
theorem inOrderA {n g : Nat} {C : World → Prop} {Lq : Act → Prop} (hsel : Region.noSelect ops = true) (hs : Region.sinkB .any ops n = true) (hc : Region.chainB .any ops n = true) (hn : n < ops.size) :
    ∀ (l : List Oper) (k : Nat) (listed : Array Bool) (a : Act), (∀ j, j < l.length → l[j]? = ops[k + j]?) → k + l.length ≤ n → HeadInv .any ops n listed →
    lexHeadA ops g n l.length k listed = true → wpQuiet P ops C Lq l a →
    HeadQ P ops C n (fun l' a' => Lq a' ∧ Region.seqB .any ops g n l' = true) l.length listed a := by
  intro l
  induction l with
  | nil =>
    intro k listed a _ hk _ hB h
    exact ⟨h, by simpa [lexHeadA] using hB⟩
  | cons o l ih =>
    intro k listed a hl hk inv hB h
    have h0 : ops[k]? = some o := by simpa using (hl 0 (by simp)).symm
    simp only [List.length_cons, lexHeadA, Bool.and_eq_true] at hB
    obtain ⟨⟨hr, hf⟩, hB'⟩ := hB
    have hkn : k < n := by simp only [List.length_cons] at hk; omega
    have hr' : k ∈ Region.ready .any ops listed := by simpa using hr
    have hst : qOp P ops C k (wpQuiet P ops C Lq l) a := by
      unfold qOp
      simp only [h0]
      exact h
    obtain ⟨v, hy, hK⟩ := yieldsIn_of_qOp h0 hst
    refine HeadQ.first h0 (Region.noSelect_spec hsel) hs hc hn hkn (fun _ _ hL => seqB_ready hL.2) l.length listed a inv (Region.free_spec h0 hf) hr' hy ?_
    refine ih (k + 1) _ _ (fun j hj => ?_) (by simp only [List.length_cons] at hk; omega) (inv.set hr' hkn) hB' hK
    have := hl (j + 1) (by simp; omega)
    simpa [Nat.add_assoc, Nat.add_comm 1 j] using this

/-- The variable is laid by the head's last operation, which waits for nothing. -/
def layB (ops : Array Oper) (k : Nat) (dk : Tmp) (T : TypeId) : Bool := match ops[k]? with
  | some o => o.after.isEmpty && o.dst == some dk && o.guard.isNone && (match o.op with | .alloc t => t == T | _ => false)
  | none => false
theorem layB_spec {k dk : Nat} {T : TypeId} (h : layB ops k dk T = true) : ∃ o, ops[k]? = some o ∧ o.after = #[] ∧ o.dst = some dk ∧ o.guard = none ∧ o.op = .alloc T := by
  unfold layB at h
  split at h
  · rename_i o ho
    simp only [Bool.and_eq_true] at h
    obtain ⟨⟨⟨h1, h2⟩, h3⟩, h4⟩ := h
    refine ⟨o, ho, by simpa using h1, by simpa using h2, by simpa using h3, ?_⟩
    split at h4
    · rename_i t ht
      rw [ht]
      simp at h4
      rw [h4]
    · cases h4
  · cases h
def allocB (ops : Array Oper) (n : Nat) (dk : Tmp) (T : TypeId) : Bool :=
  Region.noSelect ops && decide (n < ops.size) && decide (0 < n) && Region.sinkB .any ops n && Region.chainB .any ops n && distinctB ops n && layB ops (n - 1) dk T &&
    lexHeadA ops (ops.size - n) n (n - 1) 0 ((Array.replicate ops.size false).setIfInBounds (n - 1) true)

/-- The worlds of a closed class in which all that was in w0 stands as it stood. -/
def KinX (w0 : World) (X : World → Prop) : Type := {w : World // Below w0.heap.size w0 w ∧ X w}
def KinX.at_ {w0 : World} {X : World → Prop} (q : KinX w0 X) : World := q.val
theorem KinX.below {w0 : World} {X : World → Prop} (q : KinX w0 X) : Below w0.heap.size w0 q.at_ := q.property.1
theorem KinX.cell {w0 : World} {X : World → Prop} {p : Addr} {v : Value} (h : w0.cell? p = some v) (q : KinX w0 X) : q.at_.cell? p = some v := (q.below.cell (World.block_lt_of_cell? w0 _ h)).trans h
def ClosedX (X : World → Prop) : Prop := ∀ w1 w2, X w1 → Below w1.heap.size w1 w2 → X w2

theorem wp_region_kin_allocA {id : Nat} {Q : Exit → Act → World → Prop} {a : Act} {w : World} {l : List Oper} (n : Nat) (dk : Tmp) (T : TypeId) (zs : List Value) {A : Value → Act} (hm : P.follows .mixedOrders = true) (hB : allocB l.toArray n dk T = true)
    (hz : ∀ w : World, (Instr.alloc T true (.tuple #[])).run P w = .ok (.pointer (some ⟨w.heap.size, 0, none⟩)) (w.alloc (.cells zs.toArray T)))
    (h : ∀ X : World → Prop, ClosedX X → Nonempty (KinX w X) → ∀ v : Value, wpQuiet P l.toArray (fun w' => ∃ q : KinX w X, w' = q.at_) (fun a' => a' = A v) (l.take (n - 1)) (a.put (some dk) v))
    (hA : ∀ v v', A v = (A v').put (some dk) v)
    (k : ∀ (p : Nat) (w' : World), Below w.heap.size w w' → w.heap.size ≤ p → Blk w' p T zs → wpList P l.toArray Q (l.drop n) (A (.pointer (some ⟨p, 0, none⟩))) w') : (Code.region id l.toArray true).wp P Q a w := by
  simp only [allocB, Bool.and_eq_true, decide_eq_true_eq] at hB
  obtain ⟨⟨⟨⟨⟨⟨⟨hsel, hn⟩, hn0⟩, hs⟩, hc⟩, hdis⟩, hlay⟩, hlex⟩ := hB
  obtain ⟨ok, hok, haft, hdst, hgd, hop⟩ := layB_spec hlay
  have hn' : n < l.length := by simpa using hn
  have htl : (l.take (n - 1)).length = n - 1 := by rw [List.length_take]; omega
  have hdl : (l.drop n).length = l.toArray.size - n := by simp
  have hk : n - 1 < n := by omega
  have hready : ∀ listed : Array Bool, listed.getD (n - 1) true = false → n - 1 ∈ Region.ready .any l.toArray listed := fun listed hl => mem_ready.2 ⟨hl, ok, hok, by rw [haft]; intro e he; simp at he⟩
  have inv0 : HeadInv .any l.toArray n (Array.replicate l.toArray.size false) := by
    refine ⟨by simp, fun j oj _ hl => ?_, fun t _ ht => getD_in (by simpa using ht) (getD_replicate_false _ _)⟩
    rw [getD_replicate_false] at hl
    cases hl
  have hun0 : (Array.replicate l.toArray.size false).getD (n - 1) true = false := getD_in (by simp; omega) (getD_replicate_false _ _)
  have inv1 := inv0.set (hready _ hun0) hk
  have hself : a.put (some dk) (a.tmps.getD dk undef) = a := by
    simp only [Act.put]
    by_cases hsz : dk < a.tmps.size
    · have : a.tmps.setIfInBounds dk (a.tmps.getD dk undef) = a.tmps := by
        apply Array.ext
        · simp
        · intro i h1 h2
          rw [Array.getElem_setIfInBounds]
          split
          · next e => subst e; simp
          · rfl
      rw [this]
    · rw [Array.setIfInBounds_eq_of_size_le (Nat.le_of_not_lt hsz)]
  have walk : ∀ (X : World → Prop), ClosedX X → Nonempty (KinX w X) → ∀ v : Value, HeadQ P l.toArray (fun w' => ∃ q : KinX w X, w' = q.at_) n (fun l' a' => a' = A v ∧ Region.seqB .any l.toArray (l.toArray.size - n) n l' = true) (n - 1)
      ((Array.replicate l.toArray.size false).setIfInBounds (n - 1) true) (a.put (some dk) v) := by
    intro X hX hne v
    have := inOrderA (P := P) (C := fun w' => ∃ q : KinX w X, w' = q.at_) (g := l.toArray.size - n) (Lq := fun a' => a' = A v) hsel hs hc hn (l.take (n - 1)) 0 ((Array.replicate l.toArray.size false).setIfInBounds (n - 1) true) (a.put (some dk) v)
      (fun j hj => by
        have hj' : j < n - 1 := by rw [htl] at hj; exact hj
        simp [hj']) (by rw [htl]; omega) inv1 (by rw [htl]; exact hlex) (h X hX hne v)
    rwa [htl] at this
  refine wp_region_any hm ?_
  have hdr : Below w.heap.size w w.drew := (Below.refl _ _).drew
  have R := runs_alloc (P := P) (ops := l.toArray) (n := n) (g := l.toArray.size - n) (k := n - 1) (dk := dk) (C0 := fun w' => ∃ q : KinX w (fun _ => True), w' = q.at_)
    (Cp := fun p w' => ∃ q : KinX w (fun w1 => w.heap.size ≤ p ∧ Blk w1 p T zs), w' = q.at_) (A := A) (v0 := a.tmps.getD dk undef) (Q := Q) hs hc hn hk hok hdst hdis hready ?_ hA ?_ (n - 1) (Array.replicate l.toArray.size false) a w.drew inv0 hun0 ⟨⟨w.drew, hdr, trivial⟩, rfl⟩ ?_ ?_
  · rw [show n - 1 + (l.toArray.size - n) + 1 = l.toArray.size from by omega] at R
    exact R
  · rintro a1 w1 K ⟨q, rfl⟩ hK
    unfold wpOp
    simp only [hok, Region.wanted, hgd]
    simp only [if_true]
    left
    unfold Oper.wp execOp
    simp only [hop, Sem.run_bind, hz, Result.andThen_ok, Sem.run_pure]
    show K (a1.put ok.dst _) _
    rw [hdst]
    refine hK q.at_.heap.size _ ⟨⟨_, q.below.trans (below_alloc' _ q.below.size), q.below.size, Blk.new _ _ _⟩, rfl⟩
  · rintro p listed w1 ⟨q, rfl⟩ hseq
    have h3 := wpAny_of_seq (md := .any) (Q' := Q) (P := P) (l.drop n) n listed (A (.pointer (some ⟨p, 0, none⟩))) q.at_ (fun j => by simp [List.getElem?_drop]) (by rw [hdl]; exact hseq) (k p q.at_ q.below q.property.2.1 q.property.2.2)
    rwa [hdl] at h3
  · have := walk (fun _ => True) (fun _ _ _ _ => trivial) ⟨⟨w, Below.refl _ _, trivial⟩⟩ (a.tmps.getD dk undef)
    rwa [hself] at this
  · rintro p ⟨w', q, _⟩
    exact walk _ (fun w1 w2 h1 hb => ⟨h1.1, h1.2.below hb h1.2.lt⟩) ⟨q⟩ _
where
  below_alloc' {w : World} {B : Nat} (o : Obj) (hB : B ≤ w.heap.size) : Below B w (w.alloc o) :=
    ⟨rfl, rfl, rfl, by simp, fun i hi => Below.heap_alloc w o i (by omega)⟩

theorem wp_region_kin_alloc {id : Nat} {Q : Exit → Act → World → Prop} {a : Act} {w : World} {l : List Oper} (n : Nat) (dk : Tmp) (T : TypeId) (zs : List Value) (hm : P.follows .mixedOrders = true) (hB : allocB l.toArray n dk T = true)
    (hz : ∀ w : World, (Instr.alloc T true (.tuple #[])).run P w = .ok (.pointer (some ⟨w.heap.size, 0, none⟩)) (w.alloc (.cells zs.toArray T)))
    (H : ∃ A : Value → Act, (∀ X : World → Prop, ClosedX X → Nonempty (KinX w X) → ∀ v : Value, wpQuiet P l.toArray (fun w' => ∃ q : KinX w X, w' = q.at_) (fun a' => a' = A v) (l.take (n - 1)) (a.put (some dk) v)) ∧
      (∀ v v', A v = (A v').put (some dk) v) ∧
      (∀ (p : Nat) (w' : World), Below w.heap.size w w' → w.heap.size ≤ p → Blk w' p T zs → wpList P l.toArray Q (l.drop n) (A (.pointer (some ⟨p, 0, none⟩))) w')) : (Code.region id l.toArray true).wp P Q a w := by
  obtain ⟨A, h, hA, k⟩ := H
  exact wp_region_kin_allocA n dk T zs hm hB hz h hA k

variable {w : World} {X : World → Prop} {f : FuncId} {args : Array Value} {v : Value}
theorem kinX_made (hX : ClosedX X) {q : KinX w X} (h : Calls P f args q.at_ fun e w' => e = .returned v ∧ Below q.at_.heap.size q.at_ w') : Calls P f args q.at_ fun e w'' => e = .returned v ∧ ∃ q' : KinX w X, w'' = q'.at_ :=
  h.mono fun _ w'' ⟨he, hb⟩ => ⟨he, ⟨w'', q.below.trans (hb.mono q.below.size), hX _ _ q.property.2 hb⟩, rfl⟩
theorem kinX_drew (hX : ClosedX X) {q : KinX w X} (h : Calls P f args q.at_ fun e w' => e = .returned v ∧ ∃ n, w' = q.at_.drewN n) : Calls P f args q.at_ fun e w'' => e = .returned v ∧ ∃ q' : KinX w X, w'' = q'.at_ :=
  kinX_made hX (h.mono fun _ w'' ⟨he, n, hn⟩ => ⟨he, by rw [hn]; exact ⟨rfl, rfl, rfl, Nat.le_refl _, fun _ _ => rfl⟩⟩)
theorem kinX_same (hX : ClosedX X) {q : KinX w X} (h : Calls P f args q.at_ fun e w' => e = .returned v ∧ q.at_ = w') : Calls P f args q.at_ fun e w'' => e = .returned v ∧ ∃ q' : KinX w X, w'' = q'.at_ :=
  kinX_made hX (h.mono fun _ w'' ⟨he, hn⟩ => ⟨he, by rw [← hn]; exact Below.refl _ _⟩)
end
end Go.Proofs.Ythjigajielhkfaa
