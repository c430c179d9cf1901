/- What comes in: the reference's map, plainly. -/
import Derived.Test.YtnjpoidpfcfbeaaIq1
import Derived.Test.YtnjpoidpfcfbeaaSyRg
namespace Go.Proofs.Ytnjpoidpfcfbeaa
open Go.RowKit Sy
set_option linter.unusedVariables false
set_option linter.unusedSimpArgs false

def valI : List Value → Int
  | [_, .int _ b] => b
  | _ => 0
/-- The byte at a place. -/
def lookM : List (List Value) → Int → Option Int
  | [], _ => none
  | r :: l, p => if keyI r = p then some (valI r) else lookM l p
def rowK (k b : Int) : List Value := [.int .i64 k, .int .u8 b]
theorem look_in : ∀ {L : List (List Value)} (_ : GoodM L) (p : Int), inM L p = none ↔ lookM L p = none
  | [], _, p => ⟨fun _ => rfl, fun _ => rfl⟩
  | r :: l, hg, p => by
    obtain ⟨k, b, rfl, _, _⟩ := row_form (hg r (List.mem_cons_self ..))
    rw [inM_cons]
    show _ ↔ (if k = p then some b else lookM l p) = none
    have ih := look_in (L := l) (fun r hr => hg r (List.mem_cons_of_mem _ hr)) p
    split
    · simp
    · rw [← ih]
      simp
theorem mPut_cons (k b k0 b0 : Int) (l : List (List Value)) : mPut 1 (rowK k b) (rowK k0 b0 :: l) = if k0 = k then rowK k b :: l else rowK k0 b0 :: mPut 1 (rowK k b) l := by
  have h : fM 1 ((rowK k b).take 1) (rowK k0 b0 :: l) = if k0 = k then some 0 else (fM 1 ((rowK k b).take 1) l).map (· + 1) := inM_cons k0 b0 k l
  unfold mPut
  rw [h]
  by_cases q : k0 = k
  · rw [if_pos q, if_pos q]
    rfl
  · rw [if_neg q, if_neg q]
    cases fM 1 ((rowK k b).take 1) l <;> rfl
theorem look_put {k b : Int} : ∀ {L : List (List Value)} (_ : GoodM L) (p : Int), lookM (mPut 1 (rowK k b) L) p = if k = p then some b else lookM L p
  | [], _, p => rfl
  | r :: l, hg, p => by
    obtain ⟨k0, b0, rfl, _, _⟩ := row_form (hg r (List.mem_cons_self ..))
    have ih := look_put (k := k) (b := b) (L := l) (fun r hr => hg r (List.mem_cons_of_mem _ hr)) p
    have e := mPut_cons k b k0 b0 l
    unfold rowK at e ih ⊢
    rw [e]
    by_cases q : k0 = k
    · rw [if_pos q]
      show (if k = p then some b else lookM l p) = if k = p then some b else if k0 = p then some b0 else lookM l p
      split
      · rfl
      · rename_i h
        rw [if_neg (by omega)]
    · rw [if_neg q]
      show (if k0 = p then some b0 else lookM (mPut 1 _ l) p) = if k = p then some b else if k0 = p then some b0 else lookM l p
      rw [ih]
      split
      · rename_i h
        rw [if_neg (by omega)]
      · rfl
theorem good_put {k b : Int} (hk : (Lit.int .i64 k).wf = true) (hb : (Lit.int .u8 b).wf = true) : ∀ {L : List (List Value)} (_ : GoodM L), GoodM (mPut 1 (rowK k b) L)
  | [], _, r, hr => by
    rw [List.mem_singleton.1 (show r ∈ [rowK k b] from hr)]
    exact ⟨⟨k, rfl, hk⟩, ⟨b, rfl, hb⟩, trivial⟩
  | r0 :: l, hg, r, hr => by
    obtain ⟨k0, b0, rfl, _, _⟩ := row_form (hg r0 (List.mem_cons_self ..))
    have e := mPut_cons k b k0 b0 l
    unfold rowK at e hr
    rw [e] at hr
    have hl : GoodM l := fun r hr => hg r (List.mem_cons_of_mem _ hr)
    split at hr
    · rcases List.mem_cons.1 hr with rfl | hr
      · exact ⟨⟨k, rfl, hk⟩, ⟨b, rfl, hb⟩, trivial⟩
      · exact hl r hr
    · rcases List.mem_cons.1 hr with rfl | hr
      · exact hg _ (List.mem_cons_self ..)
      · exact good_put hk hb hl r hr
theorem key_put {k b K : Int} : ∀ {L : List (List Value)} (_ : GoodM L), keyMax L ≤ K → k + 1 ≤ K → keyMax (mPut 1 (rowK k b) L) ≤ K
  | [], _, h, hk => by
    show max (k + 1) 0 ≤ K
    have : keyMax [] ≤ K := h
    have : (0 : Int) ≤ K := this
    omega
  | r0 :: l, hg, h, hk => by
    obtain ⟨k0, b0, rfl, _, _⟩ := row_form (hg r0 (List.mem_cons_self ..))
    have h : max (k0 + 1) (keyMax l) ≤ K := h
    have e := mPut_cons k b k0 b0 l
    unfold rowK at e ⊢
    rw [e]
    have ih := key_put (k := k) (b := b) (K := K) (L := l) (fun r hr => hg r (List.mem_cons_of_mem _ hr)) (by omega) hk
    unfold rowK at ih
    split
    · show max (k + 1) (keyMax l) ≤ K
      omega
    · show max (k0 + 1) (keyMax (mPut 1 _ l)) ≤ K
      omega
/-- Behind all keys: the least such. -/
theorem keyMax_le {p : Int} (hp : 0 ≤ p) : ∀ {L : List (List Value)}, (∀ r ∈ L, keyI r < p) → keyMax L ≤ p
  | [], _ => hp
  | r :: l, h => by
    have h1 := h r (List.mem_cons_self ..)
    have h2 := keyMax_le hp (L := l) fun r hr => h r (List.mem_cons_of_mem _ hr)
    unfold keyMax
    omega
theorem key_lt {p : Int} : ∀ {L : List (List Value)}, keyMax L ≤ p → ∀ r ∈ L, keyI r < p
  | [], _, r, hr => by cases hr
  | r0 :: l, h, r, hr => by
    unfold keyMax at h
    rcases List.mem_cons.1 hr with rfl | hr
    · omega
    · exact key_lt (L := l) (by omega) r hr
theorem byteOf_rng (s : ByteArray) (i : Int) : 0 ≤ Sy.byteOf s i ∧ Sy.byteOf s i ≤ 255 := by
  unfold Sy.byteOf
  have := (s.data.toList.getD i.toNat 0).toNat_lt
  omega
theorem wf_i64 {k : Int} (h1 : -9223372036854775808 ≤ k) (h2 : k ≤ 9223372036854775807) : (Lit.int .i64 k).wf = true := by
  simp [Lit.wf, IntKind.min, IntKind.max, IntKind.bits, IntKind.signed]
  omega
theorem wf_u8 {k : Int} (h1 : 0 ≤ k) (h2 : k ≤ 255) : (Lit.int .u8 k).wf = true := by
  simp [Lit.wf, IntKind.min, IntKind.max, IntKind.bits, IntKind.signed]
  omega
/-! Put. -/
structure PA where
  at_ : Int
  nx : Int
  ed : Int
  fin : Int
  body : ByteArray
def stepM (A : PA) (L : List (List Value)) (i : Nat) : List (List Value) :=
  if inM L (A.at_ + i) = none ∧ A.nx ≤ A.at_ + i ∧ A.at_ + i < A.ed ∧ (A.fin = 0 ∨ A.at_ + i < A.fin) then mPut 1 (rowK (A.at_ + i) (Sy.byteOf A.body i)) L else L
def fillM (A : PA) (L : List (List Value)) : Nat → List (List Value)
  | 0 => L
  | n + 1 => stepM A (fillM A L n) n
structure PA.ok (A : PA) (K : Int) : Prop where
  a0 : -1152921504606846976 ≤ A.at_
  ab : A.at_ + (A.body.size : Int) ≤ K
  K0 : 0 ≤ K
  K1 : K ≤ 2305843009213693952
theorem fill_good {A : PA} {K : Int} (hA : A.ok K) {L : List (List Value)} (hg : GoodM L) (hk : keyMax L ≤ K) : ∀ {n : Nat}, n ≤ A.body.size → GoodM (fillM A L n) ∧ keyMax (fillM A L n) ≤ K
  | 0, _ => ⟨hg, hk⟩
  | n + 1, hn => by
    obtain ⟨h1, h2⟩ := fill_good hA hg hk (n := n) (by omega)
    have := hA.a0
    have := hA.ab
    have := hA.K1
    have := byteOf_rng A.body (n : Int)
    show GoodM (stepM A (fillM A L n) n) ∧ keyMax (stepM A (fillM A L n) n) ≤ K
    unfold stepM
    split
    · exact ⟨good_put (wf_i64 (by omega) (by omega)) (wf_u8 this.1 this.2) h1, key_put h1 h2 (by omega)⟩
    · exact ⟨h1, h2⟩
theorem fill_look {A : PA} {K : Int} (hA : A.ok K) {L : List (List Value)} (hg : GoodM L) (hk : keyMax L ≤ K) (p : Int) : ∀ {n : Nat}, n ≤ A.body.size →
    lookM (fillM A L n) p = if lookM L p = none ∧ A.nx ≤ p ∧ p < A.ed ∧ (A.fin = 0 ∨ p < A.fin) ∧ A.at_ ≤ p ∧ p < A.at_ + n then some (Sy.byteOf A.body (p - A.at_)) else lookM L p
  | 0, _ => by
    rw [if_neg (by omega)]
    rfl
  | n + 1, hn => by
    obtain ⟨h1, h2⟩ := fill_good hA hg hk (n := n) (by omega)
    have ih := fill_look hA hg hk p (n := n) (by omega)
    show lookM (stepM A (fillM A L n) n) p = _
    have hin := (look_in h1 (A.at_ + n))
    have ihn := fill_look hA hg hk (A.at_ + n) (n := n) (by omega)
    rw [if_neg (by omega)] at ihn
    unfold stepM
    by_cases hp : p = A.at_ + n
    · subst hp
      by_cases q : lookM L (A.at_ + ↑n) = none ∧ A.nx ≤ A.at_ + ↑n ∧ A.at_ + ↑n < A.ed ∧ (A.fin = 0 ∨ A.at_ + ↑n < A.fin)
      · rw [if_pos ⟨hin.2 (ihn.trans q.1), q.2⟩, look_put h1, if_pos rfl, if_pos ⟨q.1, q.2.1, q.2.2.1, q.2.2.2, by omega, by omega⟩]
        congr 2
        omega
      · rw [if_neg (fun h => q ⟨ihn.symm.trans (hin.1 h.1), h.2⟩), ihn, if_neg (fun h => q ⟨h.1, h.2.1, h.2.2.1, h.2.2.2.1⟩)]
    · have e : (if lookM L p = none ∧ A.nx ≤ p ∧ p < A.ed ∧ (A.fin = 0 ∨ p < A.fin) ∧ A.at_ ≤ p ∧ p < A.at_ + ((n + 1 : Nat) : Int) then some (Sy.byteOf A.body (p - A.at_)) else lookM L p) = (if lookM L p = none ∧ A.nx ≤ p ∧ p < A.ed ∧ (A.fin = 0 ∨ p < A.fin) ∧ A.at_ ≤ p ∧ p < A.at_ + (n : Int) then some (Sy.byteOf A.body (p - A.at_)) else lookM L p) := by
        by_cases q : lookM L p = none ∧ A.nx ≤ p ∧ p < A.ed ∧ (A.fin = 0 ∨ p < A.fin) ∧ A.at_ ≤ p ∧ p < A.at_ + (n : Int)
        · rw [if_pos q, if_pos ⟨q.1, q.2.1, q.2.2.1, q.2.2.2.1, q.2.2.2.2.1, by omega⟩]
        · rw [if_neg q, if_neg (fun h => q ⟨h.1, h.2.1, h.2.2.1, h.2.2.2.1, h.2.2.2.2.1, by omega⟩)]
      rw [e, ← ih]
      split
      · rw [look_put h1, if_neg (fun h => hp h.symm)]
      · rfl
end Go.Proofs.Ytnjpoidpfcfbeaa
