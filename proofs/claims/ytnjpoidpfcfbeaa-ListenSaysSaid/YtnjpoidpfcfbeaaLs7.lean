/- Who waits to be taken: both sides keep the same (plain). -/
import Derived.Test.YtnjpoidpfcfbeaaLs5
namespace Go.Proofs.Ytnjpoidpfcfbeaa
open Go.RowKit Sy
set_option linter.unusedVariables false
set_option linter.unusedSimpArgs false

def halfRow (r : List Value) : List Value := [.int .u32 (gI .u32 r 0), .int .i64 (gI .i64 r 1), .int .i64 1]
def waitRow (r : List Value) : List Value := [.int .i64 (gI .i64 r 3), .int .u32 (gI .u32 r 0), .int .i64 (gI .i64 r 1)]
def halfOf (L : List (List Value)) : List (List Value) := (L.filter fun r => gB r 2).map halfRow
def waitOf (L : List (List Value)) : List (List Value) := (L.filter fun r => !gB r 2).map waitRow
def Dist (L : List (List Value)) : Prop := L.Pairwise fun r s => ¬ (gI .u32 r 0 = gI .u32 s 0 ∧ gI .i64 r 1 = gI .i64 s 1)
def keyE (a p : Int) : List Value := [.int .u32 a, .int .i64 p]
def isH (a p : Int) (r : List Value) : Bool := sqR (r.take 2) (keyE a p)
theorem gI_idem (k k' : IntKind) (r : List Value) (f : Nat) (h : k' = k) : k'.wrap (gI k r f) = gI k r f := by
  subst h
  exact wrap_in (gI_bd (k := k') r f).1 (gI_bd (k := k') r f).2
theorem isH_half (a p : Int) (r : List Value) : isH a p (halfRow r) = fromW a p r := by
  unfold isH fromW halfRow keyE
  show (sqI _ a && (sqI _ p && true)) = _
  rw [Bool.eq_iff_iff]
  simp [sqI_iff]
theorem fromD_wait (a p : Int) (r : List Value) : fromD a p (waitRow r) = fromW a p r := by
  unfold fromD fromW
  show decide (IntKind.u32.wrap (gI .u32 r 0) = a ∧ IntKind.i64.wrap (gI .i64 r 1) = p) = _
  rw [gI_idem .u32 .u32 r 0 rfl, gI_idem .i64 .i64 r 1 rfl]
theorem ixOf_any {p : List Value → Bool} : ∀ {l : List (List Value)}, decide (0 ≤ ixOf p l) = l.any p
  | [] => rfl
  | a :: l => by
    have ih := ixOf_any (p := p) (l := l)
    rw [List.any_cons, ← ih]
    cases h : p a with
    | true => simp [ixOf, h]
    | false =>
      simp only [ixOf, h, Bool.false_eq_true, if_false, Bool.false_or]
      by_cases h2 : ixOf p l < 0
      · rw [if_pos h2]; simp; omega
      · rw [if_neg h2]; simp; omega
theorem ixOf_iff {p : List Value → Bool} {l : List (List Value)} : 0 ≤ ixOf p l ↔ l.any p = true := by
  rw [← ixOf_any (p := p) (l := l), decide_eq_true_eq]
theorem erase_ix {p : List Value → Bool} : ∀ {l : List (List Value)}, 0 ≤ ixOf p l → l.eraseIdx (ixOf p l).toNat = l.eraseP p
  | [], h => absurd (show (0 : Int) ≤ -1 from h) (by decide)
  | a :: l, h => by
    cases ha : p a with
    | true =>
      have e : ixOf p (a :: l) = 0 := by simp [ixOf, ha]
      rw [e, List.eraseP_cons, ha]
      rfl
    | false =>
      have e : ixOf p (a :: l) = if ixOf p l < 0 then -1 else ixOf p l + 1 := by simp [ixOf, ha]
      rw [e] at h ⊢
      split at h
      · exact absurd h (by decide)
      · rename_i hq
        rw [if_neg hq, List.eraseP_cons, ha]
        have ih := erase_ix (p := p) (l := l) (by omega)
        have et : (ixOf p l + 1).toNat = (ixOf p l).toNat + 1 := by omega
        rw [et]
        show a :: l.eraseIdx _ = a :: l.eraseP p
        rw [ih]
theorem erase_none {p : List Value → Bool} : ∀ {l : List (List Value)}, l.any p = false → l.eraseP p = l
  | [], _ => rfl
  | a :: l, h => by
    rw [List.any_cons, Bool.or_eq_false_iff] at h
    rw [List.eraseP_cons, h.1, erase_none h.2]
    rfl
theorem fM_cons (n : Nat) (k a : List Value) (l : List (List Value)) : fM n k (a :: l) = if sqR (a.take n) k then some 0 else (fM n k l).map (· + 1) := rfl
theorem mDel_cons (n : Nat) (k a : List Value) (l : List (List Value)) : mDel n k (a :: l) = if sqR (a.take n) k = true then l else a :: mDel n k l := by
  unfold mDel
  rw [fM_cons]
  cases h : sqR (a.take n) k with
  | true => rfl
  | false =>
    rw [if_neg (by decide), if_neg (by decide)]
    generalize fM n k l = x
    cases x <;> rfl
theorem mDel_erase (n : Nat) (k : List Value) : ∀ l : List (List Value), mDel n k l = l.eraseP fun r => sqR (r.take n) k
  | [] => rfl
  | a :: l => by
    rw [List.eraseP_cons, ← mDel_erase n k l, mDel_cons]
    cases sqR (a.take n) k <;> rfl
theorem mIx_any (n : Nat) (k : List Value) : ∀ l : List (List Value), (0 ≤ mIx n k l ↔ l.any (fun r => sqR (r.take n) k) = true)
  | [] => ⟨fun h => absurd (show (0 : Int) ≤ -1 from h) (by decide), fun h => (by cases h)⟩
  | a :: l => by
    have ih := mIx_any n k l
    rw [List.any_cons]
    cases h : sqR (a.take n) k with
    | true =>
      have e : mIx n k (a :: l) = 0 := by unfold mIx; rw [fM_cons, h]; rfl
      rw [e]
      simp
    | false =>
      rw [Bool.false_or, ← ih]
      unfold mIx
      rw [fM_cons, h, if_neg (by decide)]
      generalize fM n k l = x
      cases x with
      | none => exact Iff.rfl
      | some i =>
        show 0 ≤ ((i + 1 : Nat) : Int) ↔ 0 ≤ (i : Int)
        omega
theorem mPut_new {n : Nat} {r : List Value} : ∀ {l : List (List Value)}, l.any (fun x => sqR (x.take n) (r.take n)) = false → mPut n r l = l ++ [r] := by
  intro l h
  unfold mPut
  have hf : fM n (r.take n) l = none := by
    induction l with
    | nil => rfl
    | cons a l ih =>
      rw [List.any_cons, Bool.or_eq_false_iff] at h
      unfold fM
      rw [h.1, ih h.2]
      rfl
  rw [hf]
theorem dropW_none {a p : Int} {L : List (List Value)} (h : L.any (fromW a p) = false) : dropW a p L = L := by
  unfold dropW
  rw [List.filter_eq_self]
  intro r hr
  rw [List.any_eq_false] at h
  have := h r hr
  simp at this
  rw [this]
  rfl
theorem dist_one {a p : Int} {r : List Value} {L : List (List Value)} (h : Dist (r :: L)) (hr : fromW a p r = true) : L.any (fromW a p) = false := by
  rw [List.any_eq_false]
  intro s hs
  have h1 := (List.pairwise_cons.1 h).1 s hs
  unfold fromW at hr ⊢
  simp only [decide_eq_true_eq] at hr ⊢
  intro hq
  exact h1 ⟨hr.1.trans hq.1.symm, hr.2.trans hq.2.symm⟩
/-- The one from there is taken away: on one side it is searched for, on the other all from there go. -/
theorem erase_drop {a p : Int} {sel q : List Value → Bool} {f : List Value → List Value} (hq : ∀ r, q (f r) = fromW a p r) : ∀ {L : List (List Value)}, Dist L → ((L.filter sel).map f).eraseP q = ((dropW a p L).filter sel).map f
  | [], _ => rfl
  | r :: L, h => by
    have ih := erase_drop (sel := sel) hq (List.pairwise_cons.1 h).2
    cases hr : fromW a p r with
    | true =>
      have hn := dist_one h hr
      have e1 : dropW a p (r :: L) = L := by
        have : dropW a p (r :: L) = dropW a p L := by unfold dropW; rw [List.filter_cons, hr]; rfl
        rw [this, dropW_none hn]
      rw [e1]
      cases hs : sel r with
      | true =>
        rw [List.filter_cons, hs, if_pos rfl, List.map_cons, List.eraseP_cons, hq, hr]
        rfl
      | false =>
        rw [List.filter_cons, hs, if_neg (by decide)]
        rw [dropW_none hn] at ih
        exact ih
    | false =>
      have e1 : dropW a p (r :: L) = r :: dropW a p L := by unfold dropW; rw [List.filter_cons, hr]; rfl
      rw [e1]
      cases hs : sel r with
      | true =>
        rw [List.filter_cons, hs, if_pos rfl, List.map_cons, List.eraseP_cons, hq, hr, List.filter_cons, hs, if_pos rfl, List.map_cons, ← ih]
        rfl
      | false =>
        rw [List.filter_cons, hs, if_neg (by decide), List.filter_cons, hs, if_neg (by decide)]
        exact ih
theorem any_sel {a p : Int} {sel q : List Value → Bool} {f : List Value → List Value} (hq : ∀ r, q (f r) = fromW a p r) (L : List (List Value)) : ((L.filter sel).map f).any q = L.any fun r => sel r && fromW a p r := by
  rw [List.any_map, List.any_filter]
  congr 1
  funext r
  show (sel r && q (f r)) = _
  rw [hq]
theorem half_any (a p : Int) (L : List (List Value)) : (halfOf L).any (isH a p) = L.any fun r => gB r 2 && fromW a p r := any_sel (isH_half a p) L
theorem wait_any (a p : Int) (L : List (List Value)) : (waitOf L).any (fromD a p) = L.any fun r => !gB r 2 && fromW a p r := any_sel (fromD_wait a p) L
theorem any_or (a p : Int) (L : List (List Value)) : L.any (fromW a p) = ((halfOf L).any (isH a p) || (waitOf L).any (fromD a p)) := by
  rw [half_any, wait_any]
  induction L with
  | nil => rfl
  | cons r L ih =>
    rw [List.any_cons, List.any_cons, List.any_cons, ih]
    cases gB r 2 <;> cases fromW a p r <;> simp
theorem halfN_eq (L : List (List Value)) : halfN L = (halfOf L).length := by
  unfold halfN halfOf
  rw [List.length_map, List.countP_eq_length_filter]
theorem len_eq (L : List (List Value)) : L.length = (halfOf L).length + (waitOf L).length := by
  unfold halfOf waitOf
  rw [List.length_map, List.length_map]
  induction L with
  | nil => rfl
  | cons r L ih =>
    rw [List.length_cons, ih, List.filter_cons, List.filter_cons]
    cases gB r 2 <;> simp <;> omega
theorem dist_eq {L : List (List Value)} (h : Dist L) {r s : List Value} (hr : r ∈ L) (hs : s ∈ L) (e : gI .u32 r 0 = gI .u32 s 0 ∧ gI .i64 r 1 = gI .i64 s 1) : r = s := by
  induction L with
  | nil => cases hr
  | cons x L ih =>
    have h1 := List.pairwise_cons.1 h
    rcases List.mem_cons.1 hr with er | hr' <;> rcases List.mem_cons.1 hs with es | hs'
    · rw [er, es]
    · exact absurd (er ▸ e) (h1.1 s hs')
    · exact ((h1.1 r hr') ⟨(es ▸ e).1.symm, (es ▸ e).2.symm⟩).elim
    · exact ih h1.2 hr' hs'
theorem ixOf_at {q : List Value → Bool} : ∀ {l : List (List Value)}, 0 ≤ ixOf q l → l.getD (ixOf q l).toNat [] ∈ l ∧ q (l.getD (ixOf q l).toNat []) = true
  | [], h => absurd (show (0 : Int) ≤ -1 from h) (by decide)
  | a :: l, h => by
    cases ha : q a with
    | true =>
      have e : ixOf q (a :: l) = 0 := by simp [ixOf, ha]
      rw [e]
      exact ⟨List.mem_cons_self .., ha⟩
    | false =>
      have e : ixOf q (a :: l) = if ixOf q l < 0 then -1 else ixOf q l + 1 := by simp [ixOf, ha]
      rw [e] at h ⊢
      split at h
      · exact absurd h (by decide)
      · rename_i hq
        rw [if_neg hq]
        have ih := ixOf_at (q := q) (l := l) (by omega)
        have et : (ixOf q l + 1).toNat = (ixOf q l).toNat + 1 := by omega
        rw [et]
        exact ⟨List.mem_cons_of_mem _ ih.1, ih.2⟩
/-- What find tells of the one found. -/
theorem found_half {a p : Int} {L : List (List Value)} (hd : Dist L) (h : L.any (fromW a p) = true) : (fdD L a p 2).b = (halfOf L).any (isH a p) := by
  have h0 := ixOf_iff.2 h
  obtain ⟨m1, m2⟩ := ixOf_at h0
  have e : (fdD L a p 2).b = gB (L.getD (ixOf (fromW a p) L).toNat []) 2 := by
    unfold fdD
    rw [if_neg (by omega)]
    rfl
  rw [e, half_any]
  generalize L.getD (ixOf (fromW a p) L).toNat [] = r at m1 m2
  cases hg : gB r 2 with
  | true => exact (List.any_eq_true.2 ⟨r, m1, by rw [hg, m2]; rfl⟩).symm
  | false =>
    refine (List.any_eq_false.2 fun s hs hq => ?_).symm
    simp only [Bool.and_eq_true] at hq
    have hf := hq.2
    unfold fromW at hf m2
    simp only [decide_eq_true_eq] at hf m2
    have := dist_eq hd m1 hs ⟨m2.1.trans hf.1.symm, m2.2.trans hf.2.symm⟩
    rw [this, hq.1] at hg
    cases hg
/-- Both sides at one: no more than m half made, no more than m waiting. -/
structure RelL (m : Int) (H W L : List (List Value)) : Prop where
  h : H = halfOf L
  w : W = waitOf L
  d : Dist L
  hm : (H.length : Int) ≤ m
  wm : (W.length : Int) ≤ m
section
variable {m : Int} {H W L : List (List Value)} {a p : Int}
theorem RelL.any (R : RelL m H W L) (a p : Int) : L.any (fromW a p) = (H.any (isH a p) || W.any (fromD a p)) := by rw [R.h, R.w]; exact any_or a p L
theorem RelL.cnt (R : RelL m H W L) : halfN L = H.length ∧ L.length = H.length + W.length := by rw [R.h, R.w]; exact ⟨halfN_eq L, len_eq L⟩
theorem RelL.fH (R : RelL m H W L) (h : L.any (fromW a p) = true) : (fdD L a p 2).b = H.any (isH a p) := by rw [R.h]; exact found_half R.d h
theorem RelL.two (R : RelL m H W L) (h : H.any (isH a p) = true) : W.any (fromD a p) = false := by
  rw [R.h, half_any, List.any_eq_true] at h
  obtain ⟨r, hr, hq⟩ := h
  simp only [Bool.and_eq_true] at hq
  rw [R.w, wait_any]
  refine List.any_eq_false.2 fun s hs hz => ?_
  simp only [Bool.and_eq_true, Bool.not_eq_true'] at hz
  have h1 := hq.2
  have h2 := hz.2
  unfold fromW at h1 h2
  simp only [decide_eq_true_eq] at h1 h2
  have := dist_eq R.d hr hs ⟨h1.1.trans h2.1.symm, h1.2.trans h2.2.symm⟩
  rw [this, hz.1] at hq
  exact absurd hq.1 (by decide)
theorem eraseP_le (q : List Value → Bool) (l : List (List Value)) : (l.eraseP q).length ≤ l.length := (List.eraseP_sublist ..).length_le
theorem RelL.drop (R : RelL m H W L) (a p : Int) : RelL m (mDel 2 (keyE a p) H) (W.eraseP (fromD a p)) (dropW a p L) := by
  refine ⟨?_, ?_, R.d.filter _, ?_, ?_⟩
  · rw [mDel_erase, R.h]
    exact erase_drop (isH_half a p) R.d
  · rw [R.w]
    exact erase_drop (fromD_wait a p) R.d
  · rw [mDel_erase]
    have := eraseP_le (fun r => sqR (r.take 2) (keyE a p)) H
    have := R.hm
    omega
  · have := eraseP_le (fromD a p) W
    have := R.wm
    omega
theorem dist_add (hd : Dist L) {r : List Value} (hn : ∀ s ∈ L, fromW (gI .u32 r 0) (gI .i64 r 1) s = false) : Dist (L ++ [r]) := by
  refine List.pairwise_append.2 ⟨hd, List.pairwise_singleton _ _, fun s hs t ht => ?_⟩
  rw [List.mem_singleton.1 ht]
  have := hn s hs
  unfold fromW at this
  simpa using this
theorem gRow (he : EnOk a p) (b : Bool) (d : Int) : gI .u32 [.int .u32 a, .int .i64 p, .bool b, .int .i64 d] 0 = a ∧ gI .i64 [.int .u32 a, .int .i64 p, .bool b, .int .i64 d] 1 = p := ⟨wrap_in (k := .u32) he.a0 he.a1, wrap_in (k := .i64) he.p0 he.p1⟩
theorem RelL.add (R : RelL m H W L) (he : EnOk a p) (hn : L.any (fromW a p) = false) (hlt : (H.length : Int) < m) :
    RelL m (mPut 2 [.int .u32 a, .int .i64 p, .int .i64 1] H) W (L ++ [[.int .u32 a, .int .i64 p, .bool true, .int .i64 0]]) := by
  have hg := gRow he true 0
  have hH : H.any (isH a p) = false := by
    have := R.any a p
    rw [hn] at this
    cases h : H.any (isH a p) with
    | true => rw [h] at this; cases this
    | false => rfl
  have e : mPut 2 [.int .u32 a, .int .i64 p, .int .i64 1] H = H ++ [[.int .u32 a, .int .i64 p, .int .i64 1]] := mPut_new hH
  rw [e]
  refine ⟨?_, ?_, dist_add R.d fun s hs => ?_, ?_, R.wm⟩
  · rw [R.h]
    unfold halfOf
    rw [List.filter_append, List.map_append]
    congr 1
    show _ = [halfRow _]
    unfold halfRow
    rw [hg.1, hg.2]
  · rw [R.w]
    unfold waitOf
    rw [List.filter_append, List.map_append]
    exact (List.append_nil _).symm
  · rw [hg.1, hg.2]
    have := List.any_eq_false.1 hn s hs
    simpa using this
  · rw [List.length_append]
    show ((H.length + 1 : Nat) : Int) ≤ m
    omega
theorem dropW_no (a p : Int) (L : List (List Value)) : ∀ s ∈ dropW a p L, fromW a p s = false := fun s hs => by
  have := (List.mem_filter.1 hs).2
  simpa using this
theorem RelL.made (R : RelL m H W L) (he : EnOk a p) {d : Int} (hd : IntKind.i64.wrap d = d) (hn : W.any (fromD a p) = false) (hlt : (W.length : Int) < m) :
    RelL m (mDel 2 (keyE a p) H) (W ++ [[.int .i64 d, .int .u32 a, .int .i64 p]]) (dropW a p L ++ [[.int .u32 a, .int .i64 p, .bool false, .int .i64 d]]) := by
  have R' := R.drop a p
  rw [erase_none hn] at R'
  have hg := gRow he false d
  refine ⟨?_, ?_, dist_add R'.d fun s hs => ?_, R'.hm, ?_⟩
  · rw [R'.h]
    unfold halfOf
    rw [List.filter_append, List.map_append]
    exact (List.append_nil _).symm
  · conv => lhs; rw [R'.w]
    unfold waitOf
    rw [List.filter_append, List.map_append]
    congr 1
    show _ = [waitRow _]
    unfold waitRow
    rw [hg.1, hg.2]
    show [[Value.int .i64 d, _, _]] = [[Value.int .i64 (IntKind.i64.wrap d), _, _]]
    rw [hd]
  · rw [hg.1, hg.2]
    exact dropW_no a p L s hs
  · rw [List.length_append]
    show ((W.length + 1 : Nat) : Int) ≤ m
    omega
/-- Take where somebody waits. -/
theorem RelL.take (R : RelL m H W L) (hw : 0 < W.length) : RelL m H (W.eraseIdx 0) (tkL L) ∧ ¬ tkIx L < 0 ∧ W.getD 0 [] = waitRow (tkRow L) := by
  have hw2 := R.w
  have hix : 0 ≤ tkIx L := by
    refine ixOf_iff.2 ?_
    cases hL : L.any (fun r => !gB r 2) with
    | true => rfl
    | false =>
      have : waitOf L = [] := by
        unfold waitOf
        rw [List.filter_eq_nil_iff.2 fun r hr => by have := List.any_eq_false.1 hL r hr; simpa using this]
        rfl
      rw [this] at hw2
      rw [hw2] at hw
      exact absurd hw (by decide)
  have hhead : ∀ l : List (List Value), 0 ≤ tkIx l → ∃ t, waitOf l = waitRow (tkRow l) :: t := by
    intro l
    induction l with
    | nil => intro h; exact absurd h (by decide)
    | cons r l ih =>
      intro h
      unfold tkRow tkIx at *
      unfold waitOf at *
      cases hr : gB r 2 with
      | false =>
        have e : ixOf (fun r => !gB r 2) (r :: l) = 0 := by simp [ixOf, hr]
        rw [e, List.filter_cons, hr]
        exact ⟨_, rfl⟩
      | true =>
        have e : ixOf (fun r => !gB r 2) (r :: l) = if ixOf (fun r => !gB r 2) l < 0 then -1 else ixOf (fun r => !gB r 2) l + 1 := by simp [ixOf, hr]
        rw [e] at h ⊢
        split at h
        · exact absurd h (by decide)
        · rename_i hq
          rw [if_neg hq]
          obtain ⟨t, ht⟩ := ih (by omega)
          have et : (ixOf (fun r => !gB r 2) l + 1).toNat = (ixOf (fun r => !gB r 2) l).toNat + 1 := by omega
          rw [et, List.filter_cons, hr]
          exact ⟨t, ht⟩
  obtain ⟨t, ht⟩ := hhead L hix
  obtain ⟨m1, m2⟩ := ixOf_at hix
  have m1 : tkRow L ∈ L := m1
  have m2 : (!gB (tkRow L) 2) = true := m2
  have hneg : ¬ tkIx L < 0 := by omega
  have e1 : tkL L = dropW (gI .u32 (tkRow L) 0) (gI .i64 (tkRow L) 1) L := by unfold tkL; rw [if_neg hneg]
  have hself : fromW (gI .u32 (tkRow L) 0) (gI .i64 (tkRow L) 1) (tkRow L) = true := by unfold fromW; simp
  have R' := R.drop (gI .u32 (tkRow L) 0) (gI .i64 (tkRow L) 1)
  have hWt : W = waitRow (tkRow L) :: t := R.w.trans ht
  have hWe : W.eraseP (fromD (gI .u32 (tkRow L) 0) (gI .i64 (tkRow L) 1)) = W.eraseIdx 0 := by
    rw [hWt, List.eraseP_cons, fromD_wait, hself]
    rfl
  have hWy : W.any (fromD (gI .u32 (tkRow L) 0) (gI .i64 (tkRow L) 1)) = true := by
    rw [hWt, List.any_cons, fromD_wait, hself]
    rfl
  have hHn : H.any (isH (gI .u32 (tkRow L) 0) (gI .i64 (tkRow L) 1)) = false := by
    cases h : H.any (isH (gI .u32 (tkRow L) 0) (gI .i64 (tkRow L) 1)) with
    | false => rfl
    | true => rw [R.two h] at hWy; cases hWy
  have hHe : mDel 2 (keyE (gI .u32 (tkRow L) 0) (gI .i64 (tkRow L) 1)) H = H := by
    rw [mDel_erase]
    exact erase_none hHn
  rw [hWe, hHe, ← e1] at R'
  exact ⟨R', hneg, by rw [hWt]; rfl⟩
/-- Take where nobody waits. -/
theorem RelL.take0 (R : RelL m H W L) (hw : W.length = 0) : tkIx L < 0 ∧ tkL L = L := by
  have hneg : tkIx L < 0 := by
    rcases Int.lt_or_le (tkIx L) 0 with h | h
    · exact h
    · have h := ixOf_iff.1 h
      obtain ⟨r, hr, hq⟩ := List.any_eq_true.1 h
      have hm : waitRow r ∈ waitOf L := List.mem_map.2 ⟨r, List.mem_filter.2 ⟨hr, hq⟩, rfl⟩
      have := R.w
      rw [List.length_eq_zero_iff.1 hw] at this
      rw [← this] at hm
      cases hm
  exact ⟨hneg, by unfold tkL; rw [if_pos hneg]⟩
end
end Go.Proofs.Ytnjpoidpfcfbeaa
