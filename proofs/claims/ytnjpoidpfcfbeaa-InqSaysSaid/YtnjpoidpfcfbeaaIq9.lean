/- What comes in: both queues hold the same, and go on so. -/
import Derived.Test.YtnjpoidpfcfbeaaIq8
namespace Go.Proofs.Ytnjpoidpfcfbeaa
open Go.RowKit Sy
set_option linter.unusedVariables false
set_option linter.unusedSimpArgs false

structure QS where
  R : List (List Value)
  H : List (List Value)
  read : Int
  next : Int
  fin : Int
  over : Bool
def qpBar (s : QS) (at_ : Int) : Bool := decide (at_ < -1152921504606846976 ∨ 1152921504606846976 < at_) || s.over
def qpEd (s : QS) : Int := s.next + (2048 - (s.next - s.read))
def qpA (s : QS) (at_ : Int) (body : ByteArray) : QA := ⟨at_, qpEd s, s.fin, body⟩
def qpI (s : QS) (at_ : Int) : Int := max 0 (s.next - at_)
def qpL (s : QS) (at_ : Int) (body : ByteArray) : RH := loopQ (qpA s at_ body) ((body.size : Int) - qpI s at_).toNat (qpI s at_) (s.R, s.H)
def qpF (s : QS) (at_ : Int) (body : ByteArray) (ff : Bool) : Int := if ff = true ∧ s.fin < 0 ∧ s.next ≤ at_ + body.size ∧ at_ + (body.size : Int) ≤ qpEd s ∧ beh (qpL s at_ body).2 (at_ + body.size) (qpEd s) = false then at_ + body.size else s.fin
def qpN (s : QS) (at_ : Int) (body : ByteArray) : Int × List (List Value) := advQ (qpEd s) (qpEd s - s.next).toNat s.next (qpL s at_ body).2
def qpO (s : QS) (at_ : Int) (body : ByteArray) (ff : Bool) : Bool := decide ((qpN s at_ body).1 = qpF s at_ body ff)
def qpPut (s : QS) (at_ : Int) (body : ByteArray) (ff : Bool) : QS := if qpBar s at_ then s else ⟨(qpL s at_ body).1, (qpN s at_ body).2, s.read, (qpN s at_ body).1 + (if qpO s at_ body ff then 1 else 0), qpF s at_ body ff, qpO s at_ body ff⟩
def qpRet (s : QS) (at_ : Int) (body : ByteArray) (ff : Bool) : Bool := if qpBar s at_ then false else decide (s.next < (qpPut s at_ body ff).next)
/-- Both hold the same. -/
structure QRel (s : QS) (L : List (List Value)) (fin : Int) : Prop where
  ok : QuOk s.R s.H
  g : GoodM L
  k : keyMax L ≤ 1153202979583557632
  r1 : 1 ≤ s.read
  f0 : 0 ≤ fin
  f1 : fin ≤ 1153202979583557632
  over : s.over = rOver L s.read fin
  next : s.next = rNext L s.read fin
  fin : s.fin = if fin = 0 then -1 else fin
  has : ∀ p, s.read ≤ p → p < s.read + 2048 → (hasB s.H p = true ↔ gap L s.read ≤ p ∧ lookM L p ≠ none)
  ring : ∀ p, s.read ≤ p → p < s.read + 2048 → ∀ b, lookM L p = some b → byteQ s.R p = b
  keys : ∀ p, lookM L p ≠ none → p < s.read + 2048
  rk : s.read ≤ 1153202979583557632
theorem look_key {L : List (List Value)} (hg : GoodM L) {p : Int} (h : lookM L p ≠ none) : p < keyMax L := inM_lt hg fun e => h ((look_in hg p).1 e)
theorem look_of_key {L : List (List Value)} (hg : GoodM L) : ∀ r ∈ L, lookM L (keyI r) ≠ none := by
  induction L with
  | nil => intro r hr; cases hr
  | cons r0 l ih =>
    intro r hr
    unfold lookM
    by_cases e : keyI r0 = keyI r
    · rw [if_pos e]; simp
    · rw [if_neg e]
      rcases List.mem_cons.1 hr with q | hr
      · exact absurd (by rw [q]) e
      · exact ih (fun r hr => hg r (List.mem_cons_of_mem _ hr)) r hr
theorem gap_lookM {L : List (List Value)} (hg : GoodM L) (r : Int) : r ≤ gap L r ∧ lookM L (gap L r) = none ∧ ∀ p, r ≤ p → p < gap L r → lookM L p ≠ none := by
  obtain ⟨h1, h2, h3⟩ := gap_spec hg r
  exact ⟨h1, (look_in hg _).1 h2, fun p a b q => h3 p a b ((look_in hg p).2 q)⟩
theorem gap_eqM {L : List (List Value)} (hg : GoodM L) {r e : Int} (h1 : r ≤ e) (h2 : lookM L e = none) (h3 : ∀ p, r ≤ p → p < e → lookM L p ≠ none) : gap L r = e :=
  gap_eq hg h1 ((look_in hg e).2 h2) fun p a b q => h3 p a b ((look_in hg p).1 q)
/-- The gap lies in the window. -/
theorem QRel.gapW {s : QS} {L : List (List Value)} {fin : Int} (h : QRel s L fin) : gap L s.read ≤ s.read + 2048 := by
  obtain ⟨h1, h2, h3⟩ := gap_lookM h.g s.read
  rcases Int.lt_or_le (s.read + 2048) (gap L s.read) with q | q
  · have := h.keys _ (h3 (s.read + 2048) (by omega) q)
    omega
  · exact q
theorem QRel.inp {s : QS} {L : List (List Value)} {fin : Int} (h : QRel s L fin) {at_ : Int} {body : ByteArray} (a0 : -9223372036854775808 ≤ at_) (a1 : at_ ≤ 9223372036854775807) (hb : body.size ≤ 140737488355328) : RpIn L s.read fin at_ body :=
  ⟨h.g, h.k, by have := h.r1; omega, h.rk, h.f0, h.f1, a0, a1, hb⟩
set_option maxHeartbeats 2000000 in
theorem put_rel {s : QS} {L : List (List Value)} {fin : Int} (h : QRel s L fin) {at_ : Int} {body : ByteArray} {ff : Bool} (a0 : -9223372036854775808 ≤ at_) (a1 : at_ ≤ 9223372036854775807) (hb : body.size ≤ 140737488355328) :
    QRel (qpPut s at_ body ff) (rpMap L s.read fin at_ body) (rpFin L s.read fin at_ body ff) ∧ qpRet s at_ body ff = rpRet L s.read fin at_ body ff := by
  have hin := h.inp a0 a1 hb
  have hbar : qpBar s at_ = rpBar L s.read fin at_ := by unfold qpBar rpBar; rw [h.over]
  cases hq : rpBar L s.read fin at_ with
  | true =>
    unfold qpPut qpRet rpMap rpFin rpRet
    rw [hbar, hq]
    exact ⟨h, rfl⟩
  | false =>
    have hno : s.over = false := by
      unfold qpBar at hbar
      rw [hq] at hbar
      cases q : s.over with
      | false => rfl
      | true => rw [q, Bool.or_true] at hbar; cases hbar
    have hp2 : ¬ (at_ < -1152921504606846976 ∨ 1152921504606846976 < at_) := by
      intro q'
      unfold rpBar at hq
      rw [decide_eq_true q'] at hq
      cases hq
    have hov := h.over
    rw [hno] at hov
    have hnext : s.next = gap L s.read := by
      rw [h.next]
      unfold rNext
      rw [← hov]
      simp
    obtain ⟨g1, g2, g3⟩ := gap_lookM h.g s.read
    have gW := h.gapW
    have hed : qpEd s = s.read + 2048 := by unfold qpEd; omega
    have r1 := h.r1
    have f0 := h.f0
    have hfin := h.fin
    -- the reference's map
    have hM : rpMap L s.read fin at_ body = fillM (rpPA L s.read fin at_ body) L body.size := by unfold rpMap; rw [hq, if_neg (by decide)]
    have hpa := hin.pa hq
    obtain ⟨mg, mk⟩ := hin.map
    have look : ∀ p, lookM (rpMap L s.read fin at_ body) p = if lookM L p = none ∧ gap L s.read ≤ p ∧ p < s.read + 2048 ∧ (fin = 0 ∨ p < fin) ∧ at_ ≤ p ∧ p < at_ + (body.size : Int) then some (Sy.byteOf body (p - at_)) else lookM L p := fun p => by
      rw [hM, fill_look hpa h.g h.k p (n := body.size) (Nat.le_refl body.size)]
      show (if lookM L p = none ∧ gap L s.read ≤ p ∧ p < gap L s.read + (2048 - (gap L s.read - s.read)) ∧ (fin = 0 ∨ p < fin) ∧ at_ ≤ p ∧ p < at_ + (body.size : Int) then some (Sy.byteOf body (p - at_)) else lookM L p) = _
      rw [show gap L s.read + (2048 - (gap L s.read - s.read)) = s.read + 2048 from by omega]
    -- the program's rings
    have hloop := loopQ_spec (A := qpA s at_ body) (W := s.read) (show qpEd s ≤ s.read + 2048 by omega) ((body.size : Int) - qpI s at_).toNat (qpI s at_) (s.R, s.H) h.ok (show s.read ≤ at_ + qpI s at_ by unfold qpI; omega) (show (body.size : Int) - qpI s at_ ≤ _ by omega) (by unfold qpI; omega)
    have hokL : QuOk (qpL s at_ body).1 (qpL s at_ body).2 := loopQ_ok (s := (s.R, s.H)) h.ok
    have cnd : ∀ p, s.read ≤ p → p < s.read + 2048 → ((at_ + qpI s at_ ≤ p ∧ p < at_ + (body.size : Int) ∧ p < qpEd s ∧ ¬ (0 ≤ s.fin ∧ s.fin ≤ p)) ↔ (gap L s.read ≤ p ∧ p < s.read + 2048 ∧ (fin = 0 ∨ p < fin) ∧ at_ ≤ p ∧ p < at_ + (body.size : Int))) := fun p p0 p1 => by
      unfold qpI
      rw [hnext, hed]
      by_cases z : fin = 0
      · rw [if_pos z] at hfin
        omega
      · rw [if_neg z] at hfin
        omega
    have has1 : ∀ p, s.read ≤ p → p < s.read + 2048 → (hasB (qpL s at_ body).2 p = true ↔ gap L s.read ≤ p ∧ lookM (rpMap L s.read fin at_ body) p ≠ none) := fun p p0 p1 => by
      have e := (hloop p p0 p1).1
      have e : hasB (qpL s at_ body).2 p = (hasB s.H p || decide (at_ + qpI s at_ ≤ p ∧ p < at_ + (body.size : Int) ∧ p < qpEd s ∧ ¬ (0 ≤ s.fin ∧ s.fin ≤ p))) := e
      have c := cnd p p0 p1
      rw [e, Bool.or_eq_true, decide_eq_true_eq, h.has p p0 p1, c, look p]
      constructor
      · rintro (⟨q1, q2⟩ | q)
        · exact ⟨q1, by rw [if_neg fun t => q2 t.1]; exact q2⟩
        · refine ⟨q.1, ?_⟩
          by_cases t : lookM L p = none
          · rw [if_pos ⟨t, q⟩]; simp
          · rw [if_neg fun t' => t t'.1]; exact t
      · rintro ⟨q1, q2⟩
        by_cases t : lookM L p = none ∧ gap L s.read ≤ p ∧ p < s.read + 2048 ∧ (fin = 0 ∨ p < fin) ∧ at_ ≤ p ∧ p < at_ + (body.size : Int)
        · exact .inr t.2
        · rw [if_neg t] at q2
          exact .inl ⟨q1, q2⟩
    have ring1 : ∀ p, s.read ≤ p → p < s.read + 2048 → ∀ b, lookM (rpMap L s.read fin at_ body) p = some b → byteQ (qpL s at_ body).1 p = b := fun p p0 p1 b hbb => by
      have e := (hloop p p0 p1).2
      have e : byteQ (qpL s at_ body).1 p = if hasB s.H p = false ∧ (at_ + qpI s at_ ≤ p ∧ p < at_ + (body.size : Int) ∧ p < qpEd s ∧ ¬ (0 ≤ s.fin ∧ s.fin ≤ p)) then Sy.byteOf body (p - at_) else byteQ s.R p := e
      have c := cnd p p0 p1
      rw [look p] at hbb
      by_cases t : lookM L p = none ∧ gap L s.read ≤ p ∧ p < s.read + 2048 ∧ (fin = 0 ∨ p < fin) ∧ at_ ≤ p ∧ p < at_ + (body.size : Int)
      · rw [if_pos t] at hbb
        injection hbb with hbb
        have hq0 : hasB s.H p = false := by
          cases q : hasB s.H p with
          | false => rfl
          | true => exact absurd t.1 ((h.has p p0 p1).1 q).2
        rw [e, if_pos ⟨hq0, c.2 t.2⟩, hbb]
      · rw [if_neg t] at hbb
        rw [e, if_neg, h.ring p p0 p1 b hbb]
        rintro ⟨q1, q2⟩
        have q3 := c.1 q2
        have : hasB s.H p = true := (h.has p p0 p1).2 ⟨q3.1, by rw [hbb]; simp⟩
        rw [q1] at this
        cases this
    have keys1 : ∀ p, lookM (rpMap L s.read fin at_ body) p ≠ none → p < s.read + 2048 := fun p hp => by
      rw [look p] at hp
      by_cases t : lookM L p = none ∧ gap L s.read ≤ p ∧ p < s.read + 2048 ∧ (fin = 0 ∨ p < fin) ∧ at_ ≤ p ∧ p < at_ + (body.size : Int)
      · exact t.2.2.1
      · rw [if_neg t] at hp
        exact h.keys p hp
    have more : ∀ p, lookM L p ≠ none → lookM (rpMap L s.read fin at_ body) p ≠ none := fun p hp => by
      rw [look p, if_neg fun t => hp t.1]
      exact hp
    -- the second loop
    obtain ⟨a1', a2', a3', a4', a5', a6', a7'⟩ := advQ_spec (ed := qpEd s) (W := s.read) (by omega) (qpEd s - s.next).toNat s.next (qpL s at_ body).2 hokL.hl hokL.hk (by omega) (by omega) (by omega)
    have hgap : gap (rpMap L s.read fin at_ body) s.read = (qpN s at_ body).1 := by
      refine gap_eqM mg (show s.read ≤ (qpN s at_ body).1 by unfold qpN; omega) ?_ ?_
      · unfold qpN
        rcases Int.lt_or_le (advQ (qpEd s) (qpEd s - s.next).toNat s.next (qpL s at_ body).2).1 (qpEd s) with q | q
        · have hf := a4' q
          cases t : lookM (rpMap L s.read fin at_ body) (advQ (qpEd s) (qpEd s - s.next).toNat s.next (qpL s at_ body).2).1 with
          | none => rfl
          | some b =>
            have := (has1 (advQ (qpEd s) (qpEd s - s.next).toNat s.next (qpL s at_ body).2).1 (by omega) (by omega)).2 ⟨by omega, by rw [t]; simp⟩
            rw [hf] at this
            cases this
        · cases t : lookM (rpMap L s.read fin at_ body) (advQ (qpEd s) (qpEd s - s.next).toNat s.next (qpL s at_ body).2).1 with
          | none => rfl
          | some b =>
            have := keys1 (advQ (qpEd s) (qpEd s - s.next).toNat s.next (qpL s at_ body).2).1 (by rw [t]; simp)
            omega
      · intro p p0 p1
        by_cases q : p < gap L s.read
        · exact more p (g3 p p0 q)
        · have p1 : p < (advQ (qpEd s) (qpEd s - s.next).toNat s.next (qpL s at_ body).2).1 := p1
          exact ((has1 p p0 (by omega)).1 (a3' p (by omega) p1)).2
    -- the end
    have hF : qpF s at_ body ff = if rpFin L s.read fin at_ body ff = 0 then -1 else rpFin L s.read fin at_ body ff := by
      have hbe : ∀ P : Int, P = at_ + body.size → gap L s.read ≤ P → (beh (qpL s at_ body).2 P (qpEd s) = false ↔ keyMax (rpMap L s.read fin at_ body) ≤ P) := fun P hP hgP => by
        constructor
        · intro q
          refine keyMax_le (by omega) fun r hr => ?_
          rcases Int.lt_or_le (keyI r) P with t | t
          · exact t
          · have hl := look_of_key mg r hr
            have hlt := keys1 _ hl
            have := beh_iff.2 ⟨keyI r, t, show keyI r < qpEd s by omega, (has1 _ (by omega) hlt).2 ⟨by omega, hl⟩⟩
            rw [q] at this
            cases this
        · intro q
          cases t : beh (qpL s at_ body).2 P (qpEd s) with
          | false => rfl
          | true =>
            obtain ⟨k, k1, k2, k3⟩ := beh_iff.1 t
            have := look_key mg ((has1 k (by omega) (by omega)).1 k3).2
            omega
      have hRF : rpFin L s.read fin at_ body ff = if rpTest L s.read fin at_ body ff = true ∧ keyMax (rpMap L s.read fin at_ body) ≤ at_ + body.size then at_ + body.size else fin := by
        unfold rpFin
        rw [hq]
        rfl
      rw [hRF]
      unfold qpF rpTest
      by_cases z : fin = 0
      · rw [if_pos z] at hfin
        by_cases c : ff = true ∧ gap L s.read ≤ at_ + body.size ∧ at_ + (body.size : Int) ≤ s.read + 2048 ∧ keyMax (rpMap L s.read fin at_ body) ≤ at_ + body.size
        · have e1 : ff = true ∧ s.fin < 0 ∧ s.next ≤ at_ + body.size ∧ at_ + (body.size : Int) ≤ qpEd s ∧ beh (qpL s at_ body).2 (at_ + body.size) (qpEd s) = false := ⟨c.1, by omega, by omega, by omega, (hbe _ rfl c.2.1).2 c.2.2.2⟩
          have e2 : (ff && decide (fin = 0 ∧ gap L s.read ≤ at_ + body.size ∧ at_ + (body.size : Int) ≤ gap L s.read + (2048 - (gap L s.read - s.read)))) = true ∧ keyMax (rpMap L s.read fin at_ body) ≤ at_ + body.size := by
            refine ⟨?_, c.2.2.2⟩
            rw [c.1, decide_eq_true ⟨z, c.2.1, by omega⟩]
            rfl
          rw [if_pos e1, if_pos e2, if_neg (by omega)]
        · have e1 : ¬ (ff = true ∧ s.fin < 0 ∧ s.next ≤ at_ + body.size ∧ at_ + (body.size : Int) ≤ qpEd s ∧ beh (qpL s at_ body).2 (at_ + body.size) (qpEd s) = false) := fun q => c ⟨q.1, by omega, by omega, (hbe _ rfl (by omega)).1 q.2.2.2.2⟩
          have e2 : ¬ ((ff && decide (fin = 0 ∧ gap L s.read ≤ at_ + body.size ∧ at_ + (body.size : Int) ≤ gap L s.read + (2048 - (gap L s.read - s.read)))) = true ∧ keyMax (rpMap L s.read fin at_ body) ≤ at_ + body.size) := fun q => by
            rw [Bool.and_eq_true, decide_eq_true_eq] at q
            exact c ⟨q.1.1, q.1.2.2.1, by omega, q.2⟩
          rw [if_neg e1, if_neg e2, if_pos z, hfin]
      · rw [if_neg z] at hfin
        have e1 : ¬ (ff = true ∧ s.fin < 0 ∧ s.next ≤ at_ + body.size ∧ at_ + (body.size : Int) ≤ qpEd s ∧ beh (qpL s at_ body).2 (at_ + body.size) (qpEd s) = false) := fun q => by omega
        have e2 : ¬ ((ff && decide (fin = 0 ∧ gap L s.read ≤ at_ + body.size ∧ at_ + (body.size : Int) ≤ gap L s.read + (2048 - (gap L s.read - s.read)))) = true ∧ keyMax (rpMap L s.read fin at_ body) ≤ at_ + body.size) := fun q => by
          rw [Bool.and_eq_true, decide_eq_true_eq] at q
          exact z q.1.2.1
        rw [if_neg e1, if_neg e2, if_neg z, hfin]
    have hrng := rpFin_rng (ff := ff) hin
    have hO : qpO s at_ body ff = rOver (rpMap L s.read fin at_ body) s.read (rpFin L s.read fin at_ body ff) := by
      unfold qpO rOver
      rw [hF, hgap]
      have : s.read ≤ (qpN s at_ body).1 := by unfold qpN; omega
      refine decide_eq_decide.2 ?_
      split <;> omega
    have hPut : qpPut s at_ body ff = ⟨(qpL s at_ body).1, (qpN s at_ body).2, s.read, (qpN s at_ body).1 + (if qpO s at_ body ff then 1 else 0), qpF s at_ body ff, qpO s at_ body ff⟩ := by
      unfold qpPut
      rw [hbar, hq, if_neg (by decide)]
    have hN : (qpN s at_ body).1 + (if qpO s at_ body ff then 1 else 0) = rNext (rpMap L s.read fin at_ body) s.read (rpFin L s.read fin at_ body ff) := by
      unfold rNext
      rw [hgap, hO]
    refine ⟨?_, ?_⟩
    · rw [hPut]
      refine ⟨⟨hokL.rl, hokL.rk, a5', a6'⟩, mg, mk, r1, hrng.1, hrng.2, hO, hN, hF, ?_, ring1, keys1, h.rk⟩
      intro p p0 p1
      have e := a7' p p0 p1
      show hasB (qpN s at_ body).2 p = true ↔ gap (rpMap L s.read fin at_ body) s.read ≤ p ∧ _
      have e : hasB (qpN s at_ body).2 p = (hasB (qpL s at_ body).2 p && !decide (s.next ≤ p ∧ p < (qpN s at_ body).1)) := e
      have a1'' : s.next ≤ (qpN s at_ body).1 := a1'
      rw [e, Bool.and_eq_true, has1 p p0 p1, hgap, Bool.not_eq_true', decide_eq_false_iff_not]
      constructor
      · rintro ⟨⟨q1, q2⟩, q3⟩
        exact ⟨by omega, q2⟩
      · rintro ⟨q1, q2⟩
        exact ⟨⟨by omega, q2⟩, by omega⟩
    · unfold qpRet rpRet
      rw [hbar, hq, if_neg (by decide), if_neg (by decide), hPut]
      show decide (s.next < (qpN s at_ body).1 + (if qpO s at_ body ff then 1 else 0)) = _
      rw [hN, hnext]
/-! Read. -/
theorem rdS_congr {m m' : Int → Int} {p : Int} : ∀ {k : Nat}, (∀ q, p ≤ q → q < p + k → m q = m' q) → rdS m p k = rdS m' p k
  | 0, _ => rfl
  | k + 1, h => by
    show rdS m p k ++ chrOf (m (p + k)) = rdS m' p k ++ chrOf (m' (p + k))
    rw [rdS_congr fun q h1 h2 => h q h1 (by omega), h (p + k) (by omega) (by omega)]
theorem has_mod {H : List (List Value)} {p q : Int} (h : p % 2048 = q % 2048) : hasB H p = hasB H q := by unfold hasB; rw [h]
theorem read_rel {s : QS} {L : List (List Value)} {fin : Int} (h : QRel s L fin) (most : Int) : QRel { s with read := s.read + rdN L s.read most } L fin ∧ rdS (byteQ s.R) s.read (rdN L s.read most).toNat = rdS (byteM L) s.read (rdN L s.read most).toNat := by
  obtain ⟨g1, g2, g3⟩ := gap_lookM h.g s.read
  have gW := h.gapW
  have gle := gap_le h.g s.read
  have hk := h.k
  have hrk := h.rk
  have r1 := h.r1
  have hn : 0 ≤ rdN L s.read most ∧ s.read + rdN L s.read most ≤ gap L s.read := by unfold rdN; omega
  have hgap : gap L (s.read + rdN L s.read most) = gap L s.read := gap_eqM h.g hn.2 g2 fun p a b => g3 p (by omega) b
  have hov : rOver L (s.read + rdN L s.read most) fin = rOver L s.read fin := by unfold rOver; rw [hgap]
  refine ⟨⟨h.ok, h.g, h.k, show 1 ≤ s.read + rdN L s.read most by omega, h.f0, h.f1, ?_, ?_, h.fin, ?_, ?_, ?_, show s.read + rdN L s.read most ≤ 1153202979583557632 by omega⟩, ?_⟩
  · show s.over = rOver L (s.read + rdN L s.read most) fin
    rw [hov]; exact h.over
  · show s.next = rNext L (s.read + rdN L s.read most) fin
    unfold rNext
    rw [hov, hgap]
    exact h.next
  · intro p p0 p1
    have p0 : s.read + rdN L s.read most ≤ p := p0
    have p1 : p < s.read + rdN L s.read most + 2048 := p1
    show hasB s.H p = true ↔ gap L (s.read + rdN L s.read most) ≤ p ∧ lookM L p ≠ none
    rw [hgap]
    by_cases q : p < s.read + 2048
    · exact h.has p (by omega) q
    · rw [has_mod (q := p - 2048) (by omega)]
      have e := h.has (p - 2048) (by omega) (by omega)
      constructor
      · intro t
        have := (e.1 t).1
        omega
      · rintro ⟨_, t⟩
        have := h.keys p t
        omega
  · intro p p0 p1 b hb
    have p0 : s.read + rdN L s.read most ≤ p := p0
    have : lookM L p ≠ none := by rw [hb]; simp
    exact h.ring p (by omega) (h.keys p this) b hb
  · intro p hp
    have := h.keys p hp
    show p < s.read + rdN L s.read most + 2048
    omega
  · refine rdS_congr fun q h1 h2 => ?_
    have hl := g3 q h1 (by omega)
    unfold byteM
    cases t : lookM L q with
    | none => exact absurd t hl
    | some b => exact h.ring q h1 (by omega) b t
end Go.Proofs.Ytnjpoidpfcfbeaa
