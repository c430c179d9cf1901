/- The reference's Put: what it does. -/
import Derived.Test.YtnjpoidpfcfbeaaIq3
namespace Go.Proofs.Ytnjpoidpfcfbeaa
open Go.RowKit Sy
set_option linter.unusedVariables false
set_option linter.unusedSimpArgs false

def rOver (L : List (List Value)) (read fin : Int) : Bool := decide (0 < fin ∧ gap L read = fin)
def rNext (L : List (List Value)) (read fin : Int) : Int := gap L read + if rOver L read fin then 1 else 0
def rpBar (L : List (List Value)) (read fin at_ : Int) : Bool := decide (at_ < -1152921504606846976 ∨ 1152921504606846976 < at_) || rOver L read fin
def rpPA (L : List (List Value)) (read fin at_ : Int) (body : ByteArray) : PA := ⟨at_, gap L read, gap L read + (2048 - (gap L read - read)), fin, body⟩
def rpMap (L : List (List Value)) (read fin at_ : Int) (body : ByteArray) : List (List Value) := if rpBar L read fin at_ then L else fillM (rpPA L read fin at_ body) L body.size
def rpTest (L : List (List Value)) (read fin at_ : Int) (body : ByteArray) (ff : Bool) : Bool := ff && decide (fin = 0 ∧ gap L read ≤ at_ + body.size ∧ at_ + (body.size : Int) ≤ gap L read + (2048 - (gap L read - read)))
def rpFin (L : List (List Value)) (read fin at_ : Int) (body : ByteArray) (ff : Bool) : Int := if rpBar L read fin at_ then fin else if rpTest L read fin at_ body ff = true ∧ keyMax (rpMap L read fin at_ body) ≤ at_ + body.size then at_ + body.size else fin
def rpRet (L : List (List Value)) (read fin at_ : Int) (body : ByteArray) (ff : Bool) : Bool := if rpBar L read fin at_ then false else decide (gap L read < rNext (rpMap L read fin at_ body) read (rpFin L read fin at_ body ff))
def K60 : Int := 1153202979583557632
/-- What is asked. -/
structure RpIn (L : List (List Value)) (read fin at_ : Int) (body : ByteArray) : Prop where
  g : GoodM L
  k : keyMax L ≤ 1153202979583557632
  r0 : 0 ≤ read
  r1 : read ≤ 1153202979583557632
  f0 : 0 ≤ fin
  f1 : fin ≤ 1153202979583557632
  a0 : -9223372036854775808 ≤ at_
  a1 : at_ ≤ 9223372036854775807
  b : body.size ≤ 140737488355328
theorem RpIn.pa {L : List (List Value)} {read fin at_ : Int} {body : ByteArray} (h : RpIn L read fin at_ body) (hb : rpBar L read fin at_ = false) : (rpPA L read fin at_ body).ok 1153202979583557632 := by
  have hb1 : ¬ (at_ < -1152921504606846976 ∨ 1152921504606846976 < at_) := by
    intro q
    unfold rpBar at hb
    rw [decide_eq_true q] at hb
    cases hb
  have := h.b
  exact ⟨show -1152921504606846976 ≤ at_ by omega, show at_ + (body.size : Int) ≤ 1153202979583557632 by omega, by decide, by decide⟩
theorem RpIn.map {L : List (List Value)} {read fin at_ : Int} {body : ByteArray} (h : RpIn L read fin at_ body) : GoodM (rpMap L read fin at_ body) ∧ keyMax (rpMap L read fin at_ body) ≤ 1153202979583557632 := by
  unfold rpMap
  split
  · exact ⟨h.g, h.k⟩
  · rename_i q
    exact fill_good (h.pa (by simpa using q)) h.g h.k (Nat.le_refl _)
theorem RpIn.gp {L : List (List Value)} {read fin at_ : Int} {body : ByteArray} (h : RpIn L read fin at_ body) : read ≤ gap L read ∧ gap L read ≤ 1153202979583557632 := by
  have := gap_le h.g read
  have := (gap_spec h.g read).1
  have := h.k
  have := h.r1
  omega
structure PuI (L : List (List Value)) (read fin at_ : Int) (body : ByteArray) (ff : Bool) (ρ : Env) : Prop where
  g : ρ.good
  f : ρ.f = inF
  i0 : ρ.i 0 = read
  i1 : ρ.i 1 = fin
  i2 : ρ.i 2 = at_
  i5 : ρ.i 5 = gap L read
  i6 : ρ.i 6 = gap L read + (2048 - (gap L read - read))
  s0 : ρ.s 0 = body
  b0 : ρ.b 0 = ff
  n0 : 0 ≤ ρ.i 3
  n1 : ρ.i 3 ≤ (body.size : Int)
  c1 : ρ.c 1 = fillM (rpPA L read fin at_ body) L (ρ.i 3).toNat
structure UI (L : List (List Value)) (read fin at_ : Int) (body : ByteArray) (ff : Bool) (ρ : Env) : Prop where
  g : ρ.good
  f : ρ.f = inF
  i0 : ρ.i 0 = read
  i1 : ρ.i 1 = fin
  i5 : ρ.i 5 = gap L read
  i7 : ρ.i 7 = at_ + body.size
  b1 : ρ.b 1 = rpTest L read fin at_ body ff
  c1 : ρ.c 1 = rpMap L read fin at_ body
structure VI (L : List (List Value)) (read fin at_ : Int) (body : ByteArray) (ff : Bool) (ρ : Env) : Prop where
  g : ρ.good
  f : ρ.f = inF
  i0 : ρ.i 0 = read
  i5 : ρ.i 5 = gap L read
  i8 : ρ.i 8 = rpFin L read fin at_ body ff
  c1 : ρ.c 1 = rpMap L read fin at_ body
section
variable {L : List (List Value)} {read fin at_ : Int} {body : ByteArray} {ff : Bool}
theorem km_den {ρ : Env} (hf : ρ.f = inF) (t : Tm) : (den ρ (kmT t)).i = keyMax (den ρ t).c := by
  show (ρ.f 31 _ _ _).i = _
  rw [hf]
  rfl
theorem gap_den {ρ : Env} (hf : ρ.f = inF) (t : Tm) : (den ρ (gapT t)).i = gap (den ρ t).c (ρ.i 0) := by
  show (ρ.f 30 _ _ _).i = _
  rw [hf]
  rfl
theorem PuI.cx (h : RpIn L read fin at_ body) (hb : rpBar L read fin at_ = false) {ρ : Env} (I : PuI L read fin at_ body ff ρ) : (puT Try.prog Try.f12).cx.ok ρ := by
  rw [pu_cxT]
  have hp := (h.pa hb).a0
  have hp2 : ¬ (at_ < -1152921504606846976 ∨ 1152921504606846976 < at_) := by
    intro q
    unfold rpBar at hb
    rw [decide_eq_true q] at hb
    cases hb
  have e0 := I.i0
  have e1 := I.i1
  have e2 := I.i2
  have e5 := I.i5
  have e6 := I.i6
  have n0 := I.n0
  have n1 := I.n1
  have gp := h.gp
  have r0 := h.r0
  have r1 := h.r1
  have f0 := h.f0
  have f1 := h.f1
  have hb := h.b
  refine cxP ⟨?_, ?_, ?_, ?_, ?_, ?_, ?_, trivial⟩ trivial
  · show 0 ≤ ρ.i 5 ∧ ρ.i 5 ≤ 2305843009213693952; omega
  · show 0 ≤ ρ.i 6 ∧ ρ.i 6 ≤ 2305843009213695999; omega
  · show 0 ≤ ρ.i 3 ∧ ρ.i 3 ≤ 140737488355328; omega
  · show 0 ≤ ρ.i 0 ∧ ρ.i 0 ≤ 2305843009213693952; omega
  · show 0 ≤ ρ.i 1 ∧ ρ.i 1 ≤ 2305843009213693952; omega
  · show -1152921504606846976 ≤ ρ.i 2 ∧ ρ.i 2 ≤ 1152921504606846976; omega
  · show (0 : Int) ≤ ((ρ.s 0).size : Int) ∧ ((ρ.s 0).size : Int) ≤ 140737488355328
    rw [I.s0]; omega
theorem UI.cx (h : RpIn L read fin at_ body) (hb : rpBar L read fin at_ = false) {ρ : Env} (I : UI L read fin at_ body ff ρ) : Cx.ok ρ ⟨uBs, []⟩ := by
  have hp2 : ¬ (at_ < -1152921504606846976 ∨ 1152921504606846976 < at_) := by
    intro q
    unfold rpBar at hb
    rw [decide_eq_true q] at hb
    cases hb
  have e0 := I.i0
  have e1 := I.i1
  have e5 := I.i5
  have e7 := I.i7
  have gp := h.gp
  have r0 := h.r0
  have r1 := h.r1
  have f0 := h.f0
  have f1 := h.f1
  have hb := h.b
  have hk := h.map.2
  have h0 := keyMax_nonneg (rpMap L read fin at_ body)
  refine cxP ⟨?_, ?_, ?_, ?_, ?_, trivial⟩ trivial
  · show 0 ≤ ρ.i 5 ∧ ρ.i 5 ≤ 2305843009213693952; omega
  · show -2305843009213693952 ≤ ρ.i 7 ∧ ρ.i 7 ≤ 2305843009213693952; omega
  · show 0 ≤ ρ.i 0 ∧ ρ.i 0 ≤ 2305843009213693952; omega
  · show 0 ≤ ρ.i 1 ∧ ρ.i 1 ≤ 2305843009213693952; omega
  · show 0 ≤ (den ρ (kmT (.cv 1))).i ∧ (den ρ (kmT (.cv 1))).i ≤ 2305843009213693952
    rw [km_den I.f]
    show 0 ≤ keyMax (ρ.c 1) ∧ keyMax (ρ.c 1) ≤ 2305843009213693952
    rw [I.c1]; omega
theorem rpFin_rng (h : RpIn L read fin at_ body) : 0 ≤ rpFin L read fin at_ body ff ∧ rpFin L read fin at_ body ff ≤ 1153202979583557632 := by
  have f0 := h.f0
  have f1 := h.f1
  unfold rpFin
  split
  · exact ⟨f0, f1⟩
  · rename_i q
    have hp2 : ¬ (at_ < -1152921504606846976 ∨ 1152921504606846976 < at_) := by
      intro q'
      apply q
      unfold rpBar
      rw [decide_eq_true q']
      rfl
    have hb := h.b
    split
    · rename_i q2
      have := keyMax_nonneg (rpMap L read fin at_ body)
      have := q2.2
      omega
    · exact ⟨f0, f1⟩
theorem VI.cx (h : RpIn L read fin at_ body) {ρ : Env} (I : VI L read fin at_ body ff ρ) : (puV Try.prog Try.f12).cx.ok ρ := by
  rw [pu_cxV]
  have e0 := I.i0
  have e8 := I.i8
  have e5 := I.i5
  have gp := h.gp
  have r0 := h.r0
  have r1 := h.r1
  have ff := rpFin_rng (ff := ff) h
  have hk := h.map.2
  have h0 := keyMax_nonneg (rpMap L read fin at_ body)
  refine cxP ⟨?_, ?_, ?_, ?_, trivial⟩ trivial
  · show 0 ≤ ρ.i 5 ∧ ρ.i 5 ≤ 2305843009213693952; omega
  · show 0 ≤ ρ.i 0 ∧ ρ.i 0 ≤ 2305843009213693952; omega
  · show 0 ≤ ρ.i 8 ∧ ρ.i 8 ≤ 2305843009213693952; omega
  · show 0 ≤ (den ρ (kmT (.cv 1))).i ∧ (den ρ (kmT (.cv 1))).i ≤ 2305843009213693952
    rw [km_den I.f]
    show 0 ≤ keyMax (ρ.c 1) ∧ keyMax (ρ.c 1) ≤ 2305843009213693952
    rw [I.c1]; omega
/-- What Put leaves. -/
def RpPost (w : World) (g gm : Nat) (L : List (List Value)) (read fin at_ : Int) (body : ByteArray) (ff : Bool) (v : Value) (w' : World) : Prop :=
  v = .bool (rpRet L read fin at_ body ff) ∧ Blk w' g 108 (inCells gm read (rpFin L read fin at_ body ff)) ∧ MapT w' gm [.int .i64] false (.int .u8) (rpMap L read fin at_ body) ∧ Only (fun x => x = g ∨ x = gm) w w'
theorem pu_aft : aft .normal [1, 1, 1, 1, 1, 0, 1, 1] (bodyOf Try.f12) = aft .normal [0, 1, 1] (puR Try.f12) := by kernel_rfl
abbrev bn2 (g gm : Nat) : Bn := fun n => if n = 0 then g else gm
abbrev S2 (g gm : Nat) : Nat → Prop := fun x => x = g ∨ x = gm
theorem by_ok {ρ : Env} (hf : ρ.f = inF) : ∀ q ∈ [bySp], Sy.Spec.Ok Try.prog ρ q := fun q hq => by
  rw [List.mem_singleton.1 hq]
  exact bySp_ok (fun x y z => by rw [hf]; rfl) (fun x y z => by rw [hf]; rfl)
set_option maxRecDepth 100000 in
theorem pu_end {w : World} {g gm : Nat} (h : RpIn L read fin at_ body) (hb : rpBar L read fin at_ = false) {ρ : Env} (I : VI L read fin at_ body ff ρ) {β : Bn} {a : Act} {w1 : World} (hM : Md ρ (S2 g gm) w (bn2 g gm) 4 (puV Try.prog Try.f12) β a w1) :
    ctx Try.prog [1, 1, 1, 1, 1, 0, 1, 1] (bodyOf Try.f12) (bodyPost Try.prog Try.f12 (RetP (RpPost w g gm L read fin at_ body ff))) .normal a w1 := by
  have run7 := pu_run7
  rw [← pu_aft] at run7
  refine aft_fin (B := ⟨ρ, S2 g gm, w, bn2 g gm, 4⟩) I.g (by_ok I.f) rfl .normal run7 ?_ hM
  have hg1 : (den ρ (gapT (.cv 1))).i = gap (rpMap L read fin at_ body) read := by
    rw [gap_den I.f]
    show gap (ρ.c 1) (ρ.i 0) = _
    rw [I.c1, I.i0]
  have fin' : ∀ (q : Tm) pc, (pcs ρ pc → (den ρ q).b = decide (gap L read < rNext (rpMap L read fin at_ body) read (rpFin L read fin at_ body ff))) → Sm.done ⟨ρ, S2 g gm, w, bn2 g gm, 4⟩ (RpPost w g gm L read fin at_ body ff) (.ret (.one (.c (.bool q))) vHp pc) := by
    intro q pc hq hpc β w2 hH
    refine ⟨?_, ?_, ?_, hH.only⟩
    · show Value.bool (den ρ q).b = _
      rw [hq hpc]
      unfold rpRet
      rw [hb]
      rfl
    · have := hH.hp _ (List.mem_cons_self ..)
      have : Blk w2 (β 0) 108 (inCells (β 2) (ρ.i 0) (ρ.i 8)) := this
      rw [hH.old 0 (show 0 < 4 by decide), hH.old 2 (show 2 < 4 by decide), I.i0, I.i8] at this
      exact this
    · have := hH.hp _ (List.mem_cons_of_mem _ (List.mem_cons_self ..))
      have : MapT w2 (β 2) [.int .i64] false (.int .u8) (ρ.c 1) := this
      rw [hH.old 2 (show 2 < 4 by decide), I.c1] at this
      exact this
  have e8 := I.i8
  have e5 := I.i5
  refine ⟨fin' _ _ ?_, fin' _ _ ?_, fin' _ _ ?_, trivial⟩
  all_goals
    intro hpc
    simp only [pcs, t_lt, t_eq, t_not, i_iv, i_il, hg1, e8, and_true] at hpc
  · show decide ((den ρ (.iv 5)).i < (den ρ (gapT (.cv 1))).i + 1) = _
    rw [hg1, i_iv, e5]
    unfold rNext rOver
    rw [decide_eq_true (p := 0 < _ ∧ _) ⟨hpc.2, hpc.1⟩]
    rfl
  · show decide ((den ρ (.iv 5)).i < (den ρ (gapT (.cv 1))).i) = _
    rw [hg1, i_iv, e5]
    unfold rNext rOver
    rw [decide_eq_false (p := 0 < _ ∧ _) (fun q => hpc.1 q.2), if_neg (by decide), Int.add_zero]
  · show decide ((den ρ (.iv 5)).i < (den ρ (gapT (.cv 1))).i) = _
    rw [hg1, i_iv, e5]
    unfold rNext rOver
    rw [decide_eq_false (p := 0 < _ ∧ _) (fun q => hpc q.1), if_neg (by decide), Int.add_zero]
end
end Go.Proofs.Ytnjpoidpfcfbeaa
