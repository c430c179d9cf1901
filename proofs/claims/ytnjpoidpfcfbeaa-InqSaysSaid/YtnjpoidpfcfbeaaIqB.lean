/- The program's Put: its walk. -/
import Derived.Test.YtnjpoidpfcfbeaaIqA
namespace Go.Proofs.Ytnjpoidpfcfbeaa
open Go.RowKit Sy
set_option linter.unusedVariables false
set_option linter.unusedSimpArgs false

structure QpIn (s : QS) (at_ : Int) (body : ByteArray) : Prop where
  ok : QuOk s.R s.H
  r0 : 0 ≤ s.read
  r1 : s.read ≤ 1153202979583557632
  n0 : s.read ≤ s.next
  n1 : s.next ≤ s.read + 2048 ∨ s.over = true
  n2 : s.next ≤ 2305843009213693952
  f0 : -1 ≤ s.fin
  f1 : s.fin ≤ 1153202979583557632
  a0 : -9223372036854775808 ≤ at_
  a1 : at_ ≤ 9223372036854775807
  b : body.size ≤ 140737488355328
def qCells (s : QS) : List Value := quCells s.R s.H s.read s.next s.fin s.over
def QpPost (w : World) (g : Nat) (s : QS) (at_ : Int) (body : ByteArray) (ff : Bool) (v : Value) (w' : World) : Prop :=
  v = .bool (qpRet s at_ body ff) ∧ Blk w' g 105 (qCells (qpPut s at_ body ff)) ∧ QuOk (qpPut s at_ body ff).R (qpPut s at_ body ff).H ∧ Only (· = g) w w'
def iqF : Nat → Dn → Dn → Dn → Dn := fun n x y z => if n = 32 then dB (beh x.c y.i z.i) else inF n x y z
section
variable {s : QS} {at_ : Int} {body : ByteArray} {ff : Bool} {w : World} {g : Nat}
theorem loopQ_stop {A : QA} {i : Int} (h : guardQ A i = false) : ∀ (n : Nat) (s : RH), loopQ A n i s = s
  | 0, _ => rfl
  | n + 1, s => by unfold loopQ; rw [h, if_neg (by decide)]
theorem loopQ_go {A : QA} {i : Int} (h : guardQ A i = true) (s : RH) : loopQ A ((A.body.size : Int) - i).toNat i s = loopQ A ((A.body.size : Int) - (i + 1)).toNat (i + 1) (stepQ A s i) := by
  have g : i < (A.body.size : Int) := by
    unfold guardQ at h
    rw [decide_eq_true_eq] at h
    exact h.1
  rw [show ((A.body.size : Int) - i).toNat = ((A.body.size : Int) - (i + 1)).toNat + 1 from by omega]
  show (if guardQ A i then _ else _) = _
  rw [h, if_pos rfl]
theorem advQ_stop {ed n : Int} {H : List (List Value)} (h : ¬ (n < ed ∧ hasB H n = true)) : ∀ k, advQ ed k n H = (n, H)
  | 0 => rfl
  | k + 1 => by unfold advQ; rw [if_neg h]
theorem advQ_go {ed n : Int} {H : List (List Value)} (h : n < ed ∧ hasB H n = true) : advQ ed (ed - n).toNat n H = advQ ed (ed - (n + 1)).toNat (n + 1) (H.set (n % 2048).toNat [.bool false]) := by
  rw [show (ed - n).toNat = (ed - (n + 1)).toNat + 1 from by omega]
  show (if n < ed ∧ hasB H n = true then _ else _) = _
  rw [if_pos h]
structure Q1I (s : QS) (at_ : Int) (body : ByteArray) (ff : Bool) (ρ : Env) : Prop where
  g : ρ.good
  f : ρ.f = iqF
  i0 : ρ.i 0 = s.read
  i1 : ρ.i 1 = s.next
  i2 : ρ.i 2 = s.fin
  i3 : ρ.i 3 = at_
  i5 : ρ.i 5 = qpEd s
  s0 : ρ.s 0 = body
  b0 : ρ.b 0 = s.over
  b1 : ρ.b 1 = ff
  n0 : qpI s at_ ≤ ρ.i 4
  n1 : ρ.i 4 ≤ max (qpI s at_) (body.size : Int)
  c : loopQ (qpA s at_ body) ((body.size : Int) - ρ.i 4).toNat (ρ.i 4) (ρ.c 2, ρ.c 3) = qpL s at_ body
structure Q2I (s : QS) (at_ : Int) (body : ByteArray) (ff : Bool) (ρ : Env) : Prop where
  g : ρ.good
  f : ρ.f = iqF
  i0 : ρ.i 0 = s.read
  i1 : ρ.i 1 = s.next
  i2 : ρ.i 2 = s.fin
  i3 : ρ.i 3 = at_
  i5 : ρ.i 5 = qpEd s
  s0 : ρ.s 0 = body
  b0 : ρ.b 0 = s.over
  b1 : ρ.b 1 = ff
  c2 : ρ.c 2 = (qpL s at_ body).1
  c3 : ρ.c 3 = (qpL s at_ body).2
structure Q3I (s : QS) (at_ : Int) (body : ByteArray) (ff : Bool) (ρ : Env) : Prop where
  g : ρ.good
  i0 : ρ.i 0 = s.read
  i5 : ρ.i 5 = qpEd s
  i6 : ρ.i 6 = qpF s at_ body ff
  i8 : ρ.i 8 = s.next
  b0 : ρ.b 0 = s.over
  n0 : s.next ≤ ρ.i 7
  n1 : ρ.i 7 ≤ qpEd s
  c2 : ρ.c 2 = (qpL s at_ body).1
  c3 : advQ (qpEd s) (qpEd s - ρ.i 7).toNat (ρ.i 7) (ρ.c 3) = qpN s at_ body
theorem qp_nobar (hb : qpBar s at_ = false) : s.over = false ∧ ¬ (at_ < -1152921504606846976 ∨ 1152921504606846976 < at_) := by
  unfold qpBar at hb
  rw [Bool.or_eq_false_iff, decide_eq_false_iff_not] at hb
  exact ⟨hb.2, hb.1⟩
theorem Q1I.cx (h : QpIn s at_ body) (hb : qpBar s at_ = false) {ρ : Env} (I : Q1I s at_ body ff ρ) : (qpT Try.prog Try.f11).cx.ok ρ := by
  rw [qp_cxT]
  obtain ⟨_, hp⟩ := qp_nobar hb
  obtain ⟨_, r0, r1, m0, _, m2, f0, f1, _, _, hb'⟩ := h
  obtain ⟨_, _, e0, e1, e2, e3, e5, es, _, _, n0, n1, _⟩ := I
  have hed : qpEd s = s.read + 2048 := by unfold qpEd; omega
  unfold qpI at n0 n1
  refine cxP ⟨?_, ?_, ?_, ?_, ?_, ?_, ?_, ?_, trivial⟩ trivial
  · show 0 ≤ ρ.i 4 ∧ ρ.i 4 ≤ 4611686018427387904; omega
  · show 0 ≤ ρ.i 5 ∧ ρ.i 5 ≤ 2305843009213693952; omega
  · show 0 ≤ ρ.i 0 ∧ ρ.i 0 ≤ 2305843009213693952; omega
  · show 0 ≤ ρ.i 1 ∧ ρ.i 1 ≤ 2305843009213693952; omega
  · show -1 ≤ ρ.i 2 ∧ ρ.i 2 ≤ 2305843009213693952; omega
  · show -1152921504606846976 ≤ ρ.i 3 ∧ ρ.i 3 ≤ 1152921504606846976; omega
  · show (0 : Int) ≤ ((ρ.s 0).size : Int) ∧ ((ρ.s 0).size : Int) ≤ 140737488355328
    rw [es]; omega
  · show 0 ≤ ρ.i 3 + ρ.i 4 ∧ ρ.i 3 + ρ.i 4 ≤ 2305843009213693952; omega
theorem Q2I.cx (h : QpIn s at_ body) (hb : qpBar s at_ = false) {ρ : Env} (I : Q2I s at_ body ff ρ) : (qpQ Try.prog Try.f11).cx.ok ρ := by
  rw [qp_cxQ]
  obtain ⟨_, hp⟩ := qp_nobar hb
  obtain ⟨_, r0, r1, m0, _, m2, f0, f1, _, _, hb'⟩ := h
  obtain ⟨_, _, e0, e1, e2, e3, e5, es, _, _, _, _⟩ := I
  have hed : qpEd s = s.read + 2048 := by unfold qpEd; omega
  refine cxP ⟨?_, ?_, ?_, ?_, ?_, ?_, trivial⟩ trivial
  · show 0 ≤ ρ.i 5 ∧ ρ.i 5 ≤ 2305843009213693952; omega
  · show 0 ≤ ρ.i 0 ∧ ρ.i 0 ≤ 2305843009213693952; omega
  · show 0 ≤ ρ.i 1 ∧ ρ.i 1 ≤ 2305843009213693952; omega
  · show -1 ≤ ρ.i 2 ∧ ρ.i 2 ≤ 2305843009213693952; omega
  · show -1152921504606846976 ≤ ρ.i 3 ∧ ρ.i 3 ≤ 1152921504606846976; omega
  · show (0 : Int) ≤ ((ρ.s 0).size : Int) ∧ ((ρ.s 0).size : Int) ≤ 140737488355328
    rw [es]; omega
theorem qpF_rng (h : QpIn s at_ body) : -1 ≤ qpF s at_ body ff ∧ qpF s at_ body ff ≤ 2305843009213693952 := by
  obtain ⟨_, r0, r1, m0, _, m2, f0, f1, _, _, hb'⟩ := h
  have hed : qpEd s = s.read + 2048 := by unfold qpEd; omega
  unfold qpF
  split <;> omega
theorem Q3I.cx (h : QpIn s at_ body) {ρ : Env} (I : Q3I s at_ body ff ρ) : (qpU Try.prog Try.f11).cx.ok ρ := by
  rw [qp_cxU]
  have hF := qpF_rng (ff := ff) h
  obtain ⟨_, r0, r1, m0, _, m2, f0, f1, _, _, hb'⟩ := h
  obtain ⟨_, e0, e5, e6, e8, _, n0, n1, _, _⟩ := I
  have hed : qpEd s = s.read + 2048 := by unfold qpEd; omega
  refine cxP ⟨?_, ?_, ?_, ?_, ?_, trivial⟩ trivial
  · show 0 ≤ ρ.i 7 ∧ ρ.i 7 ≤ 2305843009213693952; omega
  · show 0 ≤ ρ.i 5 ∧ ρ.i 5 ≤ 2305843009213693952; omega
  · show 0 ≤ ρ.i 0 ∧ ρ.i 0 ≤ 2305843009213693952; omega
  · show 0 ≤ ρ.i 8 ∧ ρ.i 8 ≤ 2305843009213693952; omega
  · show -1 ≤ ρ.i 6 ∧ ρ.i 6 ≤ 2305843009213693952; omega
set_option maxRecDepth 100000 in
theorem qput_calls (h : QpIn s at_ body) (hO : Blk w g 105 (qCells s)) :
    Calls Try.prog 11 #[.pointer (some ⟨g, 0, none⟩), .int .i64 at_, .string body, .bool ff] w (RetP (QpPost w g s at_ body ff)) := by
  let ρ0 : Env := ⟨fun n => if n = 0 then s.read else if n = 1 then s.next else if n = 2 then s.fin else at_, fun n => if n = 0 then s.over else ff, fun _ => body, iqF, fun _ => .bool false, fun _ => .bool false, fun n => if n = 0 then s.R else s.H⟩
  have hcx : qpSt.cx.ok ρ0 := by
    obtain ⟨_, r0, r1, m0, _, m2, f0, f1, a0, a1, hb'⟩ := h
    refine cxP ⟨?_, ?_, ?_, ?_, ?_, trivial⟩ trivial
    · show 0 ≤ s.read ∧ s.read ≤ 2305843009213693952; omega
    · show 0 ≤ s.next ∧ s.next ≤ 2305843009213693952; omega
    · show -1 ≤ s.fin ∧ s.fin ≤ 2305843009213693952; omega
    · show -9223372036854775808 ≤ at_ ∧ at_ ≤ 9223372036854775807; omega
    · show (0 : Int) ≤ (body.size : Int) ∧ (body.size : Int) ≤ 140737488355328; omega
  have hM0 : Md ρ0 (· = g) w (fun _ => g) 4 qpSt (fun _ => g) ⟨#[], []⟩ w := Sy.Md.init ⟨quO_ok.2 ⟨hO, h.ok⟩, trivial⟩ ⟨trivial, trivial⟩ ⟨fun _ _ => rfl, trivial⟩ hcx rfl
  have r0 : ∀ k : Nat, k ∈ [0, 2, 3] → retS Try.prog (lfAt (qp0 Try.prog Try.f11) k) Try.f11.results.toList = some (.one (.c (.bool (.bl false)))) := fun k hk => List.map_inj_left.1 qp_ret k hk
  have hp0 : ∀ k : Nat, k ∈ [0, 2, 3] → (lfAt (qp0 Try.prog Try.f11) k).hp = qpSt.hp := fun k hk => List.map_inj_left.1 qp_hp k hk
  have mQ : ∀ k : Nat, k ∈ [0, 5, 6] → (matchS 4 (qpQ Try.prog Try.f11) (lfAt (qp1 Try.prog Try.f11) k)).map noU = some [] := fun k hk => List.map_inj_left.1 qp_matchQ k hk
  have bar : qpBar s at_ = true → ∀ k : Nat, k ∈ [0, 2, 3] → ∀ β a w1, Md ρ0 (· = g) w (fun _ => g) 4 (lfAt (qp0 Try.prog Try.f11) k) β a w1 → (bodyPost Try.prog Try.f11 (RetP (QpPost w g s at_ body ff))) .ret a w1 := by
    intro hb k hk β a w1 hM
    have hP : qpPut s at_ body ff = s := by unfold qpPut; rw [hb, if_pos rfl]
    have := hM.hp (quO 0 true (.cv 0) (.cv 1) (.iv 0) (.iv 1) (.iv 2) (.bv 0)) (by rw [hp0 k hk]; exact List.mem_cons_self ..)
    obtain ⟨h1, h2⟩ := quO_ok.1 this
    rw [hM.old 0 (by decide)] at h1
    refine ret_post (B := ⟨ρ0, (· = g), w, fun _ => g, 4⟩) hM (r0 k hk) ⟨?_, ?_, ?_, hM.only⟩
    · show Value.bool false = _
      unfold qpRet
      rw [hb, if_pos rfl]
    · rw [hP]; exact h1
    · rw [hP]; exact h2
  -- the ends
  have fin' : qpBar s at_ = false → ∀ ρ, Q3I s at_ body ff ρ → (¬ (ρ.i 7 < qpEd s ∧ hasB (ρ.c 3) (ρ.i 7) = true)) → ∀ pc, AllL (Sm.done ⟨ρ, (· = g), w, fun _ => g, 4⟩ (QpPost w g s at_ body ff)) (qEnd pc) := by
    intro hb ρ I hstop pc
    obtain ⟨hov, _⟩ := qp_nobar hb
    have hN := I.c3
    rw [advQ_stop hstop] at hN
    have e6 := I.i6
    have e8 := I.i8
    have hP : qpPut s at_ body ff = ⟨(qpL s at_ body).1, (qpN s at_ body).2, s.read, (qpN s at_ body).1 + (if qpO s at_ body ff then 1 else 0), qpF s at_ body ff, qpO s at_ body ff⟩ := by unfold qpPut; rw [hb, if_neg (by decide)]
    refine ⟨?_, ?_, trivial⟩
    · intro hpc β w2 hH
      have h7 : ρ.i 7 = qpF s at_ body ff := by
        have := hpc.1
        rw [t_eq] at this
        exact (show ρ.i 7 = ρ.i 6 from this).trans e6
      have hO' : qpO s at_ body ff = true := by unfold qpO; rw [← hN]; exact decide_eq_true h7
      obtain ⟨h1, h2⟩ := quO_ok.1 (hH.hp _ (List.mem_cons_self ..))
      rw [hH.old 0 (show 0 < 4 by decide)] at h1
      rw [hO', if_pos rfl, ← hN] at hP
      refine ⟨?_, ?_, ?_, hH.only⟩
      · show Value.bool (decide (ρ.i 8 < ρ.i 7 + 1)) = _
        unfold qpRet
        rw [hb, if_neg (by decide), hP, e8]
      · rw [hP]
        have h1 : Blk w2 g _ (quCells (ρ.c 2) (ρ.c 3) (ρ.i 0) (ρ.i 7 + 1) (ρ.i 6) true) := h1
        rw [I.c2, I.i0, e6] at h1
        exact h1
      · rw [hP]
        have h2 : QuOk (ρ.c 2) (ρ.c 3) := h2
        rw [I.c2] at h2
        exact h2
    · intro hpc β w2 hH
      have h7 : ¬ ρ.i 7 = qpF s at_ body ff := by
        have := hpc.1
        rw [t_not, t_eq] at this
        rw [← e6]
        exact this
      have hO' : qpO s at_ body ff = false := by unfold qpO; rw [← hN]; exact decide_eq_false h7
      obtain ⟨h1, h2⟩ := quO_ok.1 (hH.hp _ (List.mem_cons_self ..))
      rw [hH.old 0 (show 0 < 4 by decide)] at h1
      rw [hO', if_neg (by decide), ← hN, Int.add_zero] at hP
      refine ⟨?_, ?_, ?_, hH.only⟩
      · show Value.bool (decide (ρ.i 8 < ρ.i 7)) = _
        unfold qpRet
        rw [hb, if_neg (by decide), hP, e8]
      · rw [hP]
        have h1 : Blk w2 g _ (quCells (ρ.c 2) (ρ.c 3) (ρ.i 0) (ρ.i 7) (ρ.i 6) (ρ.b 0)) := h1
        rw [I.c2, I.i0, e6, I.b0, hov] at h1
        exact h1
      · rw [hP]
        have h2 : QuOk (ρ.c 2) (ρ.c 3) := h2
        rw [I.c2] at h2
        exact h2
  -- behind the first loop
  have second : qpBar s at_ = false → ∀ ρ, Q2I s at_ body ff ρ → ∀ β a w1, Md ρ (· = g) w (fun _ => g) 4 (qpQ Try.prog Try.f11) β a w1 → (qpR Try.f11).wp Try.prog (ctx Try.prog [1, 1, 1] (bodyOf Try.f11) (bodyPost Try.prog Try.f11 (RetP (QpPost w g s at_ body ff)))) a w1 := by
    intro hb ρ I β a w1 hM
    obtain ⟨hov, hp⟩ := qp_nobar hb
    have hed : qpEd s = s.read + 2048 := by unfold qpEd; omega
    have hn1 : s.next ≤ qpEd s := by
      rcases h.n1 with q | q
      · omega
      · rw [hov] at q; cases q
    have hB : (den ρ bT).i = at_ + (body.size : Int) := by show ρ.i 3 + ((ρ.s 0).size : Int) = _; rw [I.i3, I.s0]
    have hbe : ((den ρ (.ap 32 (.cv 3) bT (.iv 5))).b = true) = (beh (qpL s at_ body).2 (at_ + body.size) (qpEd s) = true) := by
      show ((ρ.f 32 (den ρ (.cv 3)) (den ρ bT) (den ρ (.iv 5))).b = true) = _
      rw [I.f]
      show (beh (ρ.c 3) (den ρ bT).i (ρ.i 5) = true) = _
      rw [hB, I.c3, I.i5]
    have e1 := I.i1
    have e2 := I.i2
    have e5 := I.i5
    have b1 := I.b1
    refine part_preT (p := [1, 1, 0, 2]) (r := qp2 Try.prog Try.f11) (T := qpU Try.prog Try.f11) rfl qp_run2 (Q3I s at_ body ff) (fun ρ I => I.cx h) I.g (fun q hq => by rw [List.mem_singleton.1 hq]; exact beSp_ok fun x y z => by rw [I.f]; rfl) ?_ ?_ hM
    · have mk : ∀ (v : Tm) β u, (den ρ v).i = qpF s at_ body ff → Q3I s at_ body ff { ρ.sub β [.i 8 (.iv 1), .i 7 (.iv 1), .i 6 v] with u := u } := fun v β u hv => by
        refine ⟨I.g, I.i0, I.i5, hv, I.i1, I.b0, ?_, ?_, I.c2, ?_⟩
        · show s.next ≤ ρ.i 1; omega
        · show ρ.i 1 ≤ _; omega
        · show advQ (qpEd s) (qpEd s - ρ.i 1).toNat (ρ.i 1) (ρ.c 3) = _
          rw [e1, I.c3]
          rfl
      refine ⟨?_, ?_, ?_, ?_, ?_, ?_, trivial⟩
      all_goals
        intro hpc β u
        replace hpc : pcs ρ _ := hpc
        simp only [pcs, t_lt, t_le, t_eq, t_not, t_bv, hbe, i_iv, i_il, hB, b1, e1, e2, e5, and_true] at hpc
      · refine mk bT β u ?_
        rw [hB]
        unfold qpF
        rw [if_pos ⟨hpc.2.2.2.2, hpc.2.2.2.1, hpc.2.2.1, hpc.2.1, by simpa using hpc.1⟩]
      · refine mk (.iv 2) β u ?_
        unfold qpF
        rw [if_neg fun q => by rw [hpc.1] at q; exact absurd q.2.2.2.2 (by decide)]
        exact e2
      · refine mk (.iv 2) β u ?_
        unfold qpF
        rw [if_neg fun q => hpc.1 q.2.2.2.1]
        exact e2
      · refine mk (.iv 2) β u ?_
        unfold qpF
        rw [if_neg fun q => hpc.1 q.2.2.1]
        exact e2
      · refine mk (.iv 2) β u ?_
        unfold qpF
        rw [if_neg fun q => hpc.1 q.2.1]
        exact e2
      · refine mk (.iv 2) β u ?_
        unfold qpF
        rw [if_neg fun q => hpc q.1]
        exact e2
    · intro ρ2 I2 β2 a2 w2 M2
      rw [← qp_loop2]
      refine loop_wp (w0 := w) (r := qp3 Try.prog Try.f11) rfl qp_run3 (Q3I s at_ body ff) (fun ρ => (qpEd s - ρ.i 7).toNat) (fun ρ I => I.g) (fun ρ I q hq => by cases hq) (fun ρ I => I.cx h) ?_ I2 M2
      intro ρ I
      have e5 := I.i5
      have n0 := I.n0
      have n1 := I.n1
      refine ⟨?_, ?_, ?_, trivial⟩
      all_goals
        intro hpc
        replace hpc : pcs ρ _ := hpc
        simp only [pcs, t_lt, t_not, hs_den, i_iv, c_cv, e5, and_true] at hpc
      · intro β u
        refine ⟨⟨I.g, I.i0, I.i5, I.i6, I.i8, I.b0, ?_, ?_, I.c2, ?_⟩, ?_⟩
        · show s.next ≤ ρ.i 7 + 1; omega
        · show ρ.i 7 + 1 ≤ _; omega
        · rw [← I.c3, advQ_go ⟨hpc.2, hpc.1⟩]
          rfl
        · show (qpEd s - (ρ.i 7 + 1)).toNat < (qpEd s - ρ.i 7).toNat; omega
      · intro β a w' hM
        have e := qp_end1
        rw [← qp_aft] at e
        exact aft_fin (B := ⟨ρ, (· = g), w, fun _ => g, 4⟩) I.g (fun q hq => by cases hq) rfl (.exit 2) (p := [1, 1, 1, 1, 1, 1, 0, 2]) e (fin' hb ρ I (fun q => hpc.1 q.2) _) hM
      · intro β a w' hM
        have e := qp_end2
        rw [← qp_aft] at e
        exact aft_fin (B := ⟨ρ, (· = g), w, fun _ => g, 4⟩) I.g (fun q hq => by cases hq) rfl (.exit 2) (p := [1, 1, 1, 1, 1, 1, 0, 2]) e (fin' hb ρ I (fun q => hpc q.1) _) hM
  -- the first loop
  have main : qpBar s at_ = false → ∀ β a w1, Md ρ0 (· = g) w (fun _ => g) 4 (lfAt (qp0 Try.prog Try.f11) 1) β a w1 → (Sy.sub qpP (bodyOf Try.f11)).wp Try.prog (ctx Try.prog qpP (bodyOf Try.f11) (bodyPost Try.prog Try.f11 (RetP (QpPost w g s at_ body ff)))) a w1 := by
    intro hb β a w1 hM1
    rw [← qp_loop]
    have hI1 : ∀ u, Q1I s at_ body ff { ρ0.sub β qpM0 with u := u } := fun u => by
      have e4 : ({ ρ0.sub β qpM0 with u := u } : Env).i 4 = qpI s at_ := by
        show (den ρ0 (.ite (.lt (.il 0) (.sub (.iv 1) (.iv 3))) (.sub (.iv 1) (.iv 3)) (.il 0))).i = _
        rw [i_max]
        rfl
      refine ⟨fun i => rfl, rfl, rfl, rfl, rfl, rfl, rfl, rfl, rfl, rfl, by rw [e4]; exact Int.le_refl _, by rw [e4]; omega, ?_⟩
      rw [e4]
      rfl
    obtain ⟨u, β', hM2⟩ := Sy.Md.enter hM1 qp_match1 fun u => (hI1 u).cx h hb
    refine loop_wp (w0 := w) (r := qp1 Try.prog Try.f11) rfl qp_run1 (Q1I s at_ body ff) (fun ρ => ((body.size : Int) - ρ.i 4).toNat) (fun ρ I => I.g) (fun ρ I q hq => by cases hq) (fun ρ I => I.cx h hb) ?_ (hI1 u) hM2
    intro ρ I
    have e1 := I.i1
    have e2 := I.i2
    have e3 := I.i3
    have e5 := I.i5
    have es := I.s0
    have n0 := I.n0
    have n1 := I.n1
    have hA : (den ρ aT).i = at_ + ρ.i 4 := by show ρ.i 3 + ρ.i 4 = _; rw [e3]
    have hl : ((den ρ qLen).b = true) = (ρ.i 4 < (body.size : Int)) := by
      rw [qLen, t_lt]
      show (ρ.i 4 < ((ρ.s 0).size : Int)) = _
      rw [es]
    have gd : ∀ x : Bool, (x = true ↔ (ρ.i 4 < (body.size : Int) ∧ at_ + ρ.i 4 < qpEd s ∧ ¬ (0 ≤ s.fin ∧ s.fin ≤ at_ + ρ.i 4))) → guardQ (qpA s at_ body) (ρ.i 4) = x := fun x hx => by
      have : guardQ (qpA s at_ body) (ρ.i 4) = decide (ρ.i 4 < (body.size : Int) ∧ at_ + ρ.i 4 < qpEd s ∧ ¬ (0 ≤ s.fin ∧ s.fin ≤ at_ + ρ.i 4)) := rfl
      rw [this]
      cases x with
      | true => exact decide_eq_true (hx.1 rfl)
      | false => exact decide_eq_false fun q => by cases hx.2 q
    have out : guardQ (qpA s at_ body) (ρ.i 4) = false → ∀ k : Nat, k ∈ [0, 5, 6] → ∀ β a w', Md ρ (· = g) w (fun _ => g) 4 (lfAt (qp1 Try.prog Try.f11) k) β a w' → (qpR Try.f11).wp Try.prog (ctx Try.prog [1, 1, 1] (bodyOf Try.f11) (bodyPost Try.prog Try.f11 (RetP (QpPost w g s at_ body ff)))) a w' := by
      intro hg k hk β a w' hM
      have hc := I.c
      rw [loopQ_stop hg] at hc
      have hI2 : ∀ u, Q2I s at_ body ff { ρ.sub β [] with u := u } := fun u => ⟨I.g, I.f, I.i0, I.i1, I.i2, I.i3, I.i5, I.s0, I.b0, I.b1, (congrArg Prod.fst hc), (congrArg Prod.snd hc)⟩
      obtain ⟨u, β', hM2⟩ := Sy.Md.enter hM (mQ k hk) fun u => (hI2 u).cx h hb
      exact second hb _ (hI2 u) _ _ _ hM2
    have nx : guardQ (qpA s at_ body) (ρ.i 4) = true → ∀ {l : List As} {β : Bn} {u}, (∀ j, ({ ρ.sub β l with u := u } : Env).i j = if j = 4 then ρ.i 4 + 1 else ρ.i j) → ({ ρ.sub β l with u := u } : Env).s = ρ.s → ({ ρ.sub β l with u := u } : Env).b = ρ.b → ({ ρ.sub β l with u := u } : Env).f = ρ.f → (({ ρ.sub β l with u := u } : Env).c 2, ({ ρ.sub β l with u := u } : Env).c 3) = stepQ (qpA s at_ body) (ρ.c 2, ρ.c 3) (ρ.i 4) →
        Q1I s at_ body ff { ρ.sub β l with u := u } ∧ ((body.size : Int) - ({ ρ.sub β l with u := u } : Env).i 4).toNat < ((body.size : Int) - ρ.i 4).toNat := by
      intro hg l β u hj hs hb' hf hc
      have hlt : ρ.i 4 < (body.size : Int) := by
        unfold guardQ at hg
        rw [decide_eq_true_eq] at hg
        exact hg.1
      have h4 := hj 4
      rw [if_pos rfl] at h4
      refine ⟨⟨I.g, hf.trans I.f, (hj 0).trans I.i0, (hj 1).trans I.i1, (hj 2).trans I.i2, (hj 3).trans I.i3, (hj 5).trans I.i5, by rw [hs]; exact es, by rw [hb']; exact I.b0, by rw [hb']; exact I.b1, by omega, by omega, ?_⟩, by omega⟩
      rw [hc, h4, ← I.c]
      exact (loopQ_go (A := qpA s at_ body) hg (ρ.c 2, ρ.c 3)).symm
    have st1 : ∀ {β : Bn} {u}, hasB (ρ.c 3) (at_ + ρ.i 4) = false → (({ ρ.sub β qBc with u := u } : Env).c 2, ({ ρ.sub β qBc with u := u } : Env).c 3) = stepQ (qpA s at_ body) (ρ.c 2, ρ.c 3) (ρ.i 4) := by
      intro β u q
      show ((ρ.c 2).set ((ρ.i 3 + ρ.i 4) % 2048).toNat [.int .u8 (Sy.byteOf (ρ.s 0) (ρ.i 4))], (ρ.c 3).set ((ρ.i 3 + ρ.i 4) % 2048).toNat [.bool true]) = (if hasB (ρ.c 3) (at_ + ρ.i 4) then _ else _)
      rw [q, e3, es]
      rfl
    have st0 : ∀ {β : Bn} {u}, hasB (ρ.c 3) (at_ + ρ.i 4) = true → (({ ρ.sub β qB with u := u } : Env).c 2, ({ ρ.sub β qB with u := u } : Env).c 3) = stepQ (qpA s at_ body) (ρ.c 2, ρ.c 3) (ρ.i 4) := by
      intro β u q
      show (ρ.c 2, ρ.c 3) = (if hasB (ρ.c 3) (at_ + ρ.i 4) then _ else _)
      rw [q]
      rfl
    have j4 : ∀ {β : Bn} {u} (j : Nat), ({ ρ.sub β qB with u := u } : Env).i j = if j = 4 then ρ.i 4 + 1 else ρ.i j := fun {β u} j => by
      match j with
      | 0 => rfl
      | 1 => rfl
      | 2 => rfl
      | 3 => rfl
      | 4 => rfl
      | j + 5 => rw [if_neg (by omega)]; rfl
    have j4c : ∀ {β : Bn} {u} (j : Nat), ({ ρ.sub β qBc with u := u } : Env).i j = if j = 4 then ρ.i 4 + 1 else ρ.i j := fun {β u} j => by
      match j with
      | 0 => rfl
      | 1 => rfl
      | 2 => rfl
      | 3 => rfl
      | 4 => rfl
      | j + 5 => rw [if_neg (by omega)]; rfl
    refine ⟨?_, ?_, ?_, ?_, ?_, ?_, ?_, trivial⟩
    all_goals
      intro hpc
      replace hpc : pcs ρ _ := hpc
      simp only [pcs, t_lt, t_le, t_not, hs_den, hA, hl, i_iv, i_il, c_cv, e2, e5, and_true] at hpc
    · intro β a w' hM
      exact out (gd false ⟨fun q => (by cases q), fun q => absurd ⟨hpc.2.1, hpc.1⟩ q.2.2⟩) 0 (by decide) β a w' hM
    · intro β u
      exact nx (gd true ⟨fun _ => ⟨hpc.2.2.2.2, hpc.2.2.2.1, fun q => hpc.2.1 q.2⟩, fun _ => rfl⟩) j4c rfl rfl rfl (st1 (by simpa using hpc.1))
    · intro β u
      exact nx (gd true ⟨fun _ => ⟨hpc.2.2.2.2, hpc.2.2.2.1, fun q => hpc.2.1 q.2⟩, fun _ => rfl⟩) j4 rfl rfl rfl (st0 hpc.1)
    · intro β u
      exact nx (gd true ⟨fun _ => ⟨hpc.2.2.2, hpc.2.2.1, fun q => hpc.2.1 q.1⟩, fun _ => rfl⟩) j4c rfl rfl rfl (st1 (by simpa using hpc.1))
    · intro β u
      exact nx (gd true ⟨fun _ => ⟨hpc.2.2.2, hpc.2.2.1, fun q => hpc.2.1 q.1⟩, fun _ => rfl⟩) j4 rfl rfl rfl (st0 hpc.1)
    · intro β a w' hM
      exact out (gd false ⟨fun q => (by cases q), fun q => absurd q.2.1 hpc.1⟩) 5 (by decide) β a w' hM
    · intro β a w' hM
      exact out (gd false ⟨fun q => (by cases q), fun q => absurd q.1 hpc⟩) 6 (by decide) β a w' hM
  refine calls_pre (B := ⟨ρ0, (· = g), w, fun _ => g, 4⟩) (sp := []) (p := qpP) (xs := qpAr) (s := qpSt) (r := qp0 Try.prog Try.f11) (fun i => rfl) (fun q hq => by cases hq) rfl Try.func11 rfl rfl qp_run0 hM0 ?_ rfl
  refine ⟨?_, ?_, ?_, ?_, trivial⟩
  all_goals
    intro hpc β a w1 hM
    replace hpc : pcs ρ0 _ := hpc
    simp only [pcs, t_lt, t_not, t_bv, i_iv, i_il, and_true] at hpc
  · refine bar ?_ 0 (by decide) β a w1 hM
    unfold qpBar
    rw [show s.over = true from hpc.1, Bool.or_true]
  · refine main ?_ β a w1 hM
    unfold qpBar
    have ho : s.over = false := by
      cases q : s.over with
      | false => rfl
      | true => exact absurd q hpc.1
    rw [ho, Bool.or_false, decide_eq_false_iff_not]
    rintro (q | q)
    · exact hpc.2.2 q
    · exact hpc.2.1 q
  · refine bar ?_ 2 (by decide) β a w1 hM
    unfold qpBar
    rw [decide_eq_true (show at_ < -1152921504606846976 ∨ 1152921504606846976 < at_ from .inr hpc.1)]
    rfl
  · refine bar ?_ 3 (by decide) β a w1 hM
    unfold qpBar
    rw [decide_eq_true (show at_ < -1152921504606846976 ∨ 1152921504606846976 < at_ from .inl hpc)]
    rfl
end
end Go.Proofs.Ytnjpoidpfcfbeaa
