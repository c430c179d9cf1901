/- InqSays: the rounds, the walk. -/
import Derived.Test.YtnjpoidpfcfbeaaIqF
import Derived.Test.YtnjpoidpfcfbeaaSized
namespace Go.Proofs.Ytnjpoidpfcfbeaa
open Go.RowKit Sy
set_option linter.unusedVariables false
set_option linter.unusedSimpArgs false

def qOf (ρ : Env) : QS := ⟨ρ.c 0, ρ.c 1, ρ.i 2, ρ.i 3, ρ.i 4, ρ.b 0⟩
structure LiI (vs : Value) (len : Nat) (ρ : Env) : Prop where
  g : ρ.good
  v : ρ.v 0 = vs
  f : ρ.f = lawG
  i0 : 0 ≤ ρ.i 0
  le : ρ.i 0 ≤ ρ.i 1
  i1 : ρ.i 1 = (len : Int)
  rel : QRel (qOf ρ) (ρ.c 2) (ρ.i 6)
  i5 : ρ.i 5 = ρ.i 2
theorem QRel.next_rng {s : QS} {L : List (List Value)} {fin : Int} (h : QRel s L fin) : s.read ≤ s.next ∧ s.next ≤ s.read + 2049 ∧ (s.next ≤ s.read + 2048 ∨ s.over = true) ∧ s.read ≤ qdEnd s ∧ qdEnd s ≤ s.read + 2048 ∧ qdEnd s = gap L s.read := by
  have g1 := (gap_lookM h.g s.read).1
  have g2 := h.gapW
  have hn := h.next
  have ho := h.over
  unfold rNext at hn
  unfold qdEnd
  rw [← ho] at hn
  cases q : s.over with
  | true =>
    rw [q, if_pos rfl] at hn
    rw [if_pos rfl]
    exact ⟨by omega, by omega, .inr rfl, by omega, by omega, by omega⟩
  | false =>
    rw [q, if_neg (by decide)] at hn
    rw [if_neg (by decide)]
    exact ⟨by omega, by omega, .inl (by omega), by omega, by omega, by omega⟩
theorem km_den' {ρ : Env} (hf : ρ.f = lawG) (t : Tm) : (den ρ (kmT t)).i = keyMax (den ρ t).c := by
  show (ρ.f 31 _ _ _).i = _
  rw [hf]
  rfl
theorem li_bs {ρ : Env} {len : Nat} (hl : len ≤ 140737488355328) (f : ρ.f = lawG) (i0 : 0 ≤ ρ.i 0) (le : ρ.i 0 ≤ ρ.i 1) (i1 : ρ.i 1 = (len : Int)) (rel : QRel (qOf ρ) (ρ.c 2) (ρ.i 6)) (i5 : ρ.i 5 = ρ.i 2) : Bds ρ liBs := by
  have nr := rel.next_rng
  have r1 : 1 ≤ ρ.i 2 := rel.r1
  have rk : ρ.i 2 ≤ 1153202979583557632 := rel.rk
  have n1 : ρ.i 2 ≤ ρ.i 3 := nr.1
  have n2 : ρ.i 3 ≤ ρ.i 2 + 2049 := nr.2.1
  have f0 := rel.f0
  have f1 := rel.f1
  have hf : ρ.i 4 = if ρ.i 6 = 0 then -1 else ρ.i 6 := rel.fin
  have hk := rel.k
  have hk0 := keyMax_nonneg (ρ.c 2)
  refine bdsP_ok ⟨?_, ?_, ?_, ?_, ?_, ?_, ?_, ?_, trivial⟩
  · show 0 ≤ ρ.i 0 ∧ ρ.i 0 ≤ 140737488355328; omega
  · show 0 ≤ ρ.i 1 ∧ ρ.i 1 ≤ 140737488355328; omega
  · show 0 ≤ ρ.i 2 ∧ ρ.i 2 ≤ 1153202979583557632; omega
  · show 0 ≤ ρ.i 3 ∧ ρ.i 3 ≤ 2305843009213693952; omega
  · show -1 ≤ ρ.i 4 ∧ ρ.i 4 ≤ 1153202979583557632
    split at hf <;> omega
  · show 0 ≤ ρ.i 5 ∧ ρ.i 5 ≤ 1153202979583557632; omega
  · show 0 ≤ ρ.i 6 ∧ ρ.i 6 ≤ 1153202979583557632; omega
  · show 0 ≤ (den ρ (kmT (.cv 2))).i ∧ (den ρ (kmT (.cv 2))).i ≤ 1153202979583557632
    rw [km_den' f]
    exact ⟨hk0, hk⟩
theorem LiI.cx {vs : Value} {len : Nat} (hl : len ≤ 140737488355328) {ρ : Env} (h : LiI vs len ρ) : Cx.ok ρ ⟨liBs, []⟩ := ⟨li_bs hl h.f h.i0 h.le h.i1 h.rel h.i5, fun t ht => by cases ht⟩
theorem x_int {cs : List Value} (h : leafAll stepLeaves cs) (n : Nat) (hn : stepLeaves[n]? = some (some (some .i64))) : -9223372036854775808 ≤ intAt cs n ∧ intAt cs n ≤ 9223372036854775807 := by
  obtain ⟨y, hy, hw⟩ := leaf_int h n hn
  unfold intAt
  rw [hy]
  exact bounds_i64 hw
theorem x_str {cs : List Value} (h : leafAll stepLeaves cs) (hk : ∀ v ∈ cs, strLe 140737488355328 v) (n : Nat) (hn : stepLeaves[n]? = some none) : (strAt cs n).size ≤ 140737488355328 := by
  obtain ⟨y, hy, _⟩ := leaf_str h n hn
  unfold strAt
  rw [hy]
  exact hk _ (List.mem_of_getElem? hy) y rfl
theorem x_bds {cs : List Value} (h : leafAll stepLeaves cs) (hk : ∀ v ∈ cs, strLe 140737488355328 v) (ρ : Env) (u : Nat → Value) {a b : Int} (hm : a ≤ (intAt cs 0) % 4 ∧ (intAt cs 0) % 4 ≤ b) : Bds { ρ.hi 100 cs with u := u } (xBs a b) := by
  refine bdsP_ok ⟨?_, ?_, ?_, ?_, trivial⟩
  · exact hm
  · exact x_int h 0 rfl
  · exact x_int h 1 rfl
  · show (0 : Int) ≤ ((strAt cs 4).size : Int) ∧ ((strAt cs 4).size : Int) ≤ 140737488355328
    have := x_str h hk 4 rfl
    omega
theorem li_sp {ρ : Env} (h : ρ.f = lawG) : ∀ q ∈ liSp, q.Ok Try.prog ρ := by
  intro q hq
  change q ∈ [_, _, _, _, _, _, _, _] at hq
  simp only [List.mem_cons, List.not_mem_nil, or_false] at hq
  rcases hq with rfl | rfl | rfl | rfl | rfl | rfl | rfl | rfl
  · exact ofSp_ok
  · exact putQSp_ok h
  · exact putRSp_ok h
  · exact readQSp_ok h
  · exact readRSp_ok h
  · exact nextSp_ok' h
  · exact overSp_ok' h
  · exact bySp_ok' h
/-- The leaves of a round: what is told of the answers shuts out all but one. -/
theorem lvS_done {r : Rs} {B : Bs} {Q : Exit → Act → World → Prop} {again : List As → Bn → Prop} {e0 n nr o orr gp rp rr : Tm} {bk : List As} {base : List Tm} (h0 : (den B.ρ e0).b = true) (h1 : (den B.ρ n).i = (den B.ρ nr).i) (h2 : (den B.ρ o).b = (den B.ρ orr).b) (h3 : (den B.ρ n).i = (den B.ρ gp).i + if (den B.ρ o).b then 1 else 0) (h4 : (den B.ρ rp).i = (den B.ρ rr).i) (hb : ∀ β, again bk β) : AllL (Sh.done r B Q again) (lvS e0 n nr o orr gp rp rr bk base) := by
  have hbq : ((den B.ρ (.bq o orr)).b = true) := by
    show ((den B.ρ o).b == (den B.ρ orr).b) = true
    rw [h2]
    exact beq_self_eq_true _
  have en : (den B.ρ (.eq n nr)).b = true := by rw [t_eq]; exact h1
  have y1 : (den B.ρ o).b = true → (den B.ρ (.eq (.sub (.add n (.il (-1))) rp) (.sub gp rr))).b = true ∧ (den B.ρ (.eq (.sub (.il 2048) (.sub (.add n (.il (-1))) rp)) (.sub (.il 2048) (.sub gp rr)))).b = true := fun q => by
    rw [q, if_pos rfl] at h3
    rw [t_eq, t_eq]
    simp only [i_sub, i_add, i_il]
    omega
  have y0 : ¬ (den B.ρ o).b = true → (den B.ρ (.eq (.sub n rp) (.sub gp rr))).b = true ∧ (den B.ρ (.eq (.sub (.il 2048) (.sub n rp)) (.sub (.il 2048) (.sub gp rr)))).b = true := fun q => by
    rw [if_neg q] at h3
    rw [t_eq, t_eq]
    simp only [i_sub, i_il]
    omega
  refine ⟨?_, ?_, ?_, ?_, ?_, ?_, ?_, ?_, ?_, ?_, trivial⟩
  · intro hpc
    have := hpc.1
    rw [t_not] at this
    exact absurd h0 this
  · intro hpc
    have := hpc.1
    rw [t_not] at this
    exact absurd hbq this
  · exact fun _ β => hb β
  · intro hpc
    have h := hpc.1
    have ho := hpc.2.2.1
    rw [t_not] at h
    exact absurd (y1 ho).1 h
  · intro hpc
    have h := hpc.1
    have ho := hpc.2.1
    rw [t_not] at h
    exact absurd (y1 ho).2 h
  · intro hpc
    have := hpc.1
    rw [t_not] at this
    exact absurd hbq this
  · exact fun _ β => hb β
  · intro hpc
    have h := hpc.1
    have ho := hpc.2.2.1
    rw [t_not] at h ho
    exact absurd (y0 ho).1 h
  · intro hpc
    have h := hpc.1
    have ho := hpc.2.1
    rw [t_not] at h ho
    exact absurd (y0 ho).2 h
  · intro hpc
    have := hpc.1
    rw [t_not] at this
    exact absurd en this
section
variable {vs : Value} {len : Nat} {w0 : World} {Q : Exit → Act → World → Prop}
abbrev LiQ (w0 : World) (vs : Value) (len m : Nat) (Q : Exit → Act → World → Prop) : Exit → Act → World → Prop := Exit.then (NextR (fun _ => False) w0 (fun _ => 0) 0 (liT Try.prog Try.f3) (LiI vs len) saysMu m) Q
theorem li_md {ρ : Env} {S : Nat → Prop} {w0 : World} {β0 : Bn} {n0 : Nat} {s : Sy.St} {β : Bn} {a : Act} {w : World} (hM : Md ρ S w0 β0 n0 s β a w) (c : Cx) (hc : c.ok ρ) : Md ρ S w0 β0 n0 { s with cx := c } β a w := ⟨hM.act, hM.hp, hM.ne, hM.may, hc, hM.only, hM.old⟩
set_option maxRecDepth 100000 in
theorem li_put (hl : len ≤ 140737488355328) {ρ : Env} (hI : LiI vs len ρ) (hlt : ρ.i 0 < ρ.i 1) {cs : List Value} (hcs : leafAll stepLeaves cs) (hk : ∀ v ∈ cs, strLe 140737488355328 v) (hm : 1 ≤ (intAt cs 0) % 4) {u : Nat → Value} {β : Bn} {a : Act} {w : World}
    (hM : Md { ρ.hi 100 cs with u := u } (fun _ => False) w0 (fun _ => 0) 0 (liX Try.prog Try.f3) β a w) : ctx Try.prog rowP (saysB Try.f3 liP) (LiQ w0 vs len (saysMu ρ) Q) .normal a w := by
  have hB : Bds { ρ.hi 100 cs with u := u } (xBs 1 3 ++ liBs) := fun x hx => (List.mem_append.1 hx).elim (x_bds hcs hk ρ u (by omega) x) (li_bs (ρ := { ρ.hi 100 cs with u := u }) hl hI.f hI.i0 hI.le hI.i1 hI.rel hI.i5 x)
  have hM1 := li_md hM ⟨xBs 1 3 ++ liBs, []⟩ ⟨hB, fun t ht => by cases ht⟩
  obtain ⟨a0, a1⟩ := x_int hcs 1 rfl
  have hb := x_str hcs hk 4 rfl
  obtain ⟨hrel, hret⟩ := put_rel hI.rel (at_ := intAt cs 1) (body := strAt cs 4) (ff := boolAt cs 3) a0 a1 hb
  have hnr := hrel.next_rng
  have hread : (qpPut (qOf ρ) (intAt cs 1) (strAt cs 4) (boolAt cs 3)).read = ρ.i 2 := by unfold qpPut; split <;> rfl
  have i5 := hI.i5
  have nr := hI.rel.next_rng
  generalize hρ1 : ({ ρ.hi 100 cs with u := u } : Env) = ρ1 at hM1
  have f1 : ρ1.f = lawG := by rw [← hρ1]; exact hI.f
  have qp : ∀ n, ρ1.f n (den ρ1 (.cv 0)) (den ρ1 (.cv 1)) (den ρ1 zP) = lawG n (dC (ρ.c 0)) (dC (ρ.c 1)) (dC [[.int .i64 (ρ.i 2), .int .i64 (ρ.i 3), .int .i64 (ρ.i 4), .bool (ρ.b 0), .int .i64 (intAt cs 1), .string (strAt cs 4), .bool (boolAt cs 3)]]) := fun n => by rw [← hρ1, show ({ ρ.hi 100 cs with u := u } : Env).f = lawG from hI.f]; rfl
  have rp : ∀ n, ρ1.f n (den ρ1 (.cv 2)) (den ρ1 yP) (den ρ1 (.il 0)) = lawG n (dC (ρ.c 2)) (dC [[.int .i64 (ρ.i 2), .int .i64 (ρ.i 6), .int .i64 (intAt cs 1), .string (strAt cs 4), .bool (boolAt cs 3)]]) (dI 0) := fun n => by
    rw [← i5, ← hρ1, show ({ ρ.hi 100 cs with u := u } : Env).f = lawG from hI.f]
    rfl
  have e50 : (den ρ1 (rA 50)).c = rpMap (ρ.c 2) (ρ.i 2) (ρ.i 6) (intAt cs 1) (strAt cs 4) := by show (ρ1.f 50 _ _ _).c = _; rw [rp]; rfl
  have e51 : (den ρ1 (rA 51)).i = rpFin (ρ.c 2) (ρ.i 2) (ρ.i 6) (intAt cs 1) (strAt cs 4) (boolAt cs 3) := by show (ρ1.f 51 _ _ _).i = _; rw [rp]; rfl
  have e52 : (den ρ1 (rA 52)).b = rpRet (ρ.c 2) (ρ.i 2) (ρ.i 6) (intAt cs 1) (strAt cs 4) (boolAt cs 3) := by show (ρ1.f 52 _ _ _).b = _; rw [rp]; rfl
  have e42 : (den ρ1 (pA 42)).c = (qpPut (qOf ρ) (intAt cs 1) (strAt cs 4) (boolAt cs 3)).R := by show (ρ1.f 42 _ _ _).c = _; rw [qp]; rfl
  have e43 : (den ρ1 (pA 43)).c = (qpPut (qOf ρ) (intAt cs 1) (strAt cs 4) (boolAt cs 3)).H := by show (ρ1.f 43 _ _ _).c = _; rw [qp]; rfl
  have e44 : (den ρ1 (pA 44)).i = (qpPut (qOf ρ) (intAt cs 1) (strAt cs 4) (boolAt cs 3)).next := by show (ρ1.f 44 _ _ _).i = _; rw [qp]; rfl
  have e45 : (den ρ1 (pA 45)).i = (qpPut (qOf ρ) (intAt cs 1) (strAt cs 4) (boolAt cs 3)).fin := by show (ρ1.f 45 _ _ _).i = _; rw [qp]; rfl
  have e46 : (den ρ1 (pA 46)).b = (qpPut (qOf ρ) (intAt cs 1) (strAt cs 4) (boolAt cs 3)).over := by show (ρ1.f 46 _ _ _).b = _; rw [qp]; rfl
  have e47 : (den ρ1 (pA 47)).b = qpRet (qOf ρ) (intAt cs 1) (strAt cs 4) (boolAt cs 3) := by show (ρ1.f 47 _ _ _).b = _; rw [qp]; rfl
  have j2 : ρ1.i 2 = ρ.i 2 := by rw [← hρ1]; rfl
  have j3 : ρ1.i 3 = ρ.i 3 := by rw [← hρ1]; rfl
  have j5 : ρ1.i 5 = ρ.i 2 := by rw [← hρ1, ← i5]; rfl
  have k0 : ρ1.b 0 = ρ.b 0 := by rw [← hρ1]; rfl
  have e33 : (den ρ1 (.ap 33 (rA 50) (.iv 5) (rA 51))).i = rNext (rpMap (ρ.c 2) (ρ.i 2) (ρ.i 6) (intAt cs 1) (strAt cs 4)) (ρ.i 2) (rpFin (ρ.c 2) (ρ.i 2) (ρ.i 6) (intAt cs 1) (strAt cs 4) (boolAt cs 3)) := by
    show (ρ1.f 33 _ _ _).i = _
    rw [f1]
    show rNext (den ρ1 (rA 50)).c (ρ1.i 5) (den ρ1 (rA 51)).i = _
    rw [e50, e51, j5]
  have e34 : (den ρ1 (.ap 34 (rA 50) (.iv 5) (rA 51))).b = rOver (rpMap (ρ.c 2) (ρ.i 2) (ρ.i 6) (intAt cs 1) (strAt cs 4)) (ρ.i 2) (rpFin (ρ.c 2) (ρ.i 2) (ρ.i 6) (intAt cs 1) (strAt cs 4) (boolAt cs 3)) := by
    show (ρ1.f 34 _ _ _).b = _
    rw [f1]
    show rOver (den ρ1 (rA 50)).c (ρ1.i 5) (den ρ1 (rA 51)).i = _
    rw [e50, e51, j5]
  have e30 : (den ρ1 (.ap 30 (rA 50) (.iv 5) (.il 0))).i = gap (rpMap (ρ.c 2) (ρ.i 2) (ρ.i 6) (intAt cs 1) (strAt cs 4)) (ρ.i 2) := by
    show (ρ1.f 30 _ _ _).i = _
    rw [f1]
    show gap (den ρ1 (rA 50)).c (ρ1.i 5) = _
    rw [e50, j5]
  have hnx : (qpPut (qOf ρ) (intAt cs 1) (strAt cs 4) (boolAt cs 3)).next = rNext (rpMap (ρ.c 2) (ρ.i 2) (ρ.i 6) (intAt cs 1) (strAt cs 4)) (ρ.i 2) (rpFin (ρ.c 2) (ρ.i 2) (ρ.i 6) (intAt cs 1) (strAt cs 4) (boolAt cs 3)) := by
    have := hrel.next
    rw [hread] at this
    exact this
  have hov : (qpPut (qOf ρ) (intAt cs 1) (strAt cs 4) (boolAt cs 3)).over = rOver (rpMap (ρ.c 2) (ρ.i 2) (ρ.i 6) (intAt cs 1) (strAt cs 4)) (ρ.i 2) (rpFin (ρ.c 2) (ρ.i 2) (ρ.i 6) (intAt cs 1) (strAt cs 4) (boolAt cs 3)) := by
    have := hrel.over
    rw [hread] at this
    exact this
  refine round_aft .normal (r := liOp Try.prog Try.f3 1 3) rfl li_op1 (I := LiI vs len) (fun ρ h => by rw [li_cx]; exact h.cx hl) (by rw [← hρ1]; exact hI.g) (li_sp f1) ⟨?_, ?_, lvS_done ?_ ?_ ?_ ?_ ?_ ?_⟩ hM1
  · intro _
    rw [mP1, t_le]
    show ρ1.i 2 ≤ ρ1.i 3
    rw [j2, j3]
    exact nr.1
  · intro _
    rw [mP2, t_or, t_le]
    show ρ1.i 3 ≤ ρ1.i 2 + 2048 ∨ ρ1.b 0 = true
    rw [j2, j3, k0]
    exact nr.2.2.1
  · show ((den ρ1 (pA 47)).b == (den ρ1 (rA 52)).b) = true
    rw [e47, e52]
    have hret : qpRet (qOf ρ) (intAt cs 1) (strAt cs 4) (boolAt cs 3) = rpRet (ρ.c 2) (ρ.i 2) (ρ.i 6) (intAt cs 1) (strAt cs 4) (boolAt cs 3) := hret
    rw [hret]
    exact beq_self_eq_true _
  · rw [e44, e33]; exact hnx
  · rw [e46, e34]; exact hov
  · rw [e44, e30, e46, hnx, hov]
    rfl
  · show ρ1.i 2 = ρ1.i 5
    rw [j2, j5]
  · intro β1 u1
    have h0 := hI.i0
    have h1 := hI.i1
    have g0 : ∀ n, ({ ρ1.sub β1 bkP with u := u1 } : Env).v n = ρ.v n := fun n => by rw [← hρ1]; rfl
    refine ⟨⟨fun i => by rw [g0]; exact hI.g i, (g0 0).trans hI.v, f1, ?_, ?_, ?_, ?_, ?_⟩, ?_⟩
    · show 0 ≤ ρ1.i 0 + 1
      rw [← hρ1]; show 0 ≤ ρ.i 0 + 1; omega
    · show ρ1.i 0 + 1 ≤ ρ1.i 1
      rw [← hρ1]; show ρ.i 0 + 1 ≤ ρ.i 1; omega
    · show ρ1.i 1 = _
      rw [← hρ1]; exact h1
    · show QRel ⟨(den ρ1 (pA 42)).c, (den ρ1 (pA 43)).c, ρ1.i 2, (den ρ1 (pA 44)).i, (den ρ1 (pA 45)).i, (den ρ1 (pA 46)).b⟩ (den ρ1 (rA 50)).c (den ρ1 (rA 51)).i
      rw [e42, e43, e44, e45, e46, e50, e51, j2]
      have : (⟨(qpPut (qOf ρ) (intAt cs 1) (strAt cs 4) (boolAt cs 3)).R, (qpPut (qOf ρ) (intAt cs 1) (strAt cs 4) (boolAt cs 3)).H, ρ.i 2, (qpPut (qOf ρ) (intAt cs 1) (strAt cs 4) (boolAt cs 3)).next, (qpPut (qOf ρ) (intAt cs 1) (strAt cs 4) (boolAt cs 3)).fin, (qpPut (qOf ρ) (intAt cs 1) (strAt cs 4) (boolAt cs 3)).over⟩ : QS) = qpPut (qOf ρ) (intAt cs 1) (strAt cs 4) (boolAt cs 3) := by
        rw [← hread]
      rw [this]
      exact hrel
    · show ρ1.i 5 = ρ1.i 2
      rw [j5, j2]
    · show (ρ1.i 1 - (ρ1.i 0 + 1)).toNat < (ρ.i 1 - ρ.i 0).toNat
      rw [← hρ1]
      show (ρ.i 1 - (ρ.i 0 + 1)).toNat < _
      omega
set_option maxRecDepth 100000 in
theorem li_read (hl : len ≤ 140737488355328) {ρ : Env} (hI : LiI vs len ρ) (hlt : ρ.i 0 < ρ.i 1) {cs : List Value} (hcs : leafAll stepLeaves cs) (hk : ∀ v ∈ cs, strLe 140737488355328 v) (hm : (intAt cs 0) % 4 = 0) {u : Nat → Value} {β : Bn} {a : Act} {w : World}
    (hM : Md { ρ.hi 100 cs with u := u } (fun _ => False) w0 (fun _ => 0) 0 (liX Try.prog Try.f3) β a w) : ctx Try.prog rowP (saysB Try.f3 liP) (LiQ w0 vs len (saysMu ρ) Q) .normal a w := by
  have hB : Bds { ρ.hi 100 cs with u := u } (xBs 0 0 ++ liBs) := fun x hx => (List.mem_append.1 hx).elim (x_bds hcs hk ρ u (by omega) x) (li_bs (ρ := { ρ.hi 100 cs with u := u }) hl hI.f hI.i0 hI.le hI.i1 hI.rel hI.i5 x)
  have hM1 := li_md hM ⟨xBs 0 0 ++ liBs, []⟩ ⟨hB, fun t ht => by cases ht⟩
  obtain ⟨hrel, hstr⟩ := read_rel hI.rel (intAt cs 1)
  have i5 := hI.i5
  have nr := hI.rel.next_rng
  have hN : qdN (qOf ρ) (intAt cs 1) = rdN (ρ.c 2) (ρ.i 2) (intAt cs 1) := by
    unfold qdN rdN
    rw [nr.2.2.2.2.2]
    rfl
  generalize hρ1 : ({ ρ.hi 100 cs with u := u } : Env) = ρ1 at hM1
  have f1 : ρ1.f = lawG := by rw [← hρ1]; exact hI.f
  have qp : ∀ n, ρ1.f n (den ρ1 (.cv 0)) (den ρ1 (.cv 1)) (den ρ1 zR) = lawG n (dC (ρ.c 0)) (dC (ρ.c 1)) (dC [[.int .i64 (ρ.i 2), .int .i64 (ρ.i 3), .int .i64 (ρ.i 4), .bool (ρ.b 0), .int .i64 (intAt cs 1)]]) := fun n => by rw [← hρ1, show ({ ρ.hi 100 cs with u := u } : Env).f = lawG from hI.f]; rfl
  have rp : ∀ n, ρ1.f n (den ρ1 (.cv 2)) (den ρ1 yR) (den ρ1 (.il 0)) = lawG n (dC (ρ.c 2)) (dC [[.int .i64 (ρ.i 2), .int .i64 (intAt cs 1)]]) (dI 0) := fun n => by
    rw [← i5, ← hρ1, show ({ ρ.hi 100 cs with u := u } : Env).f = lawG from hI.f]
    rfl
  have e59 : (den ρ1 (pD 59)).i = ρ.i 2 + rdN (ρ.c 2) (ρ.i 2) (intAt cs 1) := by
    show (ρ1.f 59 _ _ _).i = _
    rw [qp, ← hN]
    rfl
  have e53 : (den ρ1 (pD 53)).s = rdS (byteQ (ρ.c 0)) (ρ.i 2) (rdN (ρ.c 2) (ρ.i 2) (intAt cs 1)).toNat := by
    show (ρ1.f 53 _ _ _).s = _
    rw [qp, ← hN]
    rfl
  have e58 : (den ρ1 (rD 58)).i = ρ.i 2 + rdN (ρ.c 2) (ρ.i 2) (intAt cs 1) := by show (ρ1.f 58 _ _ _).i = _; rw [rp]; rfl
  have e55 : (den ρ1 (rD 55)).s = rdS (byteM (ρ.c 2)) (ρ.i 2) (rdN (ρ.c 2) (ρ.i 2) (intAt cs 1)).toNat := by show (ρ1.f 55 _ _ _).s = _; rw [rp]; rfl
  have j2 : ρ1.i 2 = ρ.i 2 := by rw [← hρ1]; rfl
  have j3 : ρ1.i 3 = ρ.i 3 := by rw [← hρ1]; rfl
  have j6 : ρ1.i 6 = ρ.i 6 := by rw [← hρ1]; rfl
  have jc : ρ1.c 2 = ρ.c 2 := by rw [← hρ1]; rfl
  have k0 : ρ1.b 0 = ρ.b 0 := by rw [← hρ1]; rfl
  have e33 : (den ρ1 (.ap 33 (.cv 2) (rD 58) (.iv 6))).i = rNext (ρ.c 2) (ρ.i 2 + rdN (ρ.c 2) (ρ.i 2) (intAt cs 1)) (ρ.i 6) := by
    show (ρ1.f 33 _ _ _).i = _
    rw [f1]
    show rNext (ρ1.c 2) (den ρ1 (rD 58)).i (ρ1.i 6) = _
    rw [e58, jc, j6]
  have e34 : (den ρ1 (.ap 34 (.cv 2) (rD 58) (.iv 6))).b = rOver (ρ.c 2) (ρ.i 2 + rdN (ρ.c 2) (ρ.i 2) (intAt cs 1)) (ρ.i 6) := by
    show (ρ1.f 34 _ _ _).b = _
    rw [f1]
    show rOver (ρ1.c 2) (den ρ1 (rD 58)).i (ρ1.i 6) = _
    rw [e58, jc, j6]
  have e30 : (den ρ1 (.ap 30 (.cv 2) (rD 58) (.il 0))).i = gap (ρ.c 2) (ρ.i 2 + rdN (ρ.c 2) (ρ.i 2) (intAt cs 1)) := by
    show (ρ1.f 30 _ _ _).i = _
    rw [f1]
    show gap (ρ1.c 2) (den ρ1 (rD 58)).i = _
    rw [e58, jc]
  have hnx : ρ.i 3 = rNext (ρ.c 2) (ρ.i 2 + rdN (ρ.c 2) (ρ.i 2) (intAt cs 1)) (ρ.i 6) := hrel.next
  have hov : ρ.b 0 = rOver (ρ.c 2) (ρ.i 2 + rdN (ρ.c 2) (ρ.i 2) (intAt cs 1)) (ρ.i 6) := hrel.over
  have hE : (den ρ1 e3T).i = qdEnd (qOf ρ) := by
    rw [e3T, endT, i_ite]
    show (if ρ1.b 0 = true then ρ1.i 3 + -1 else ρ1.i 3) = _
    rw [k0, j3]
    rfl
  refine round_aft .normal (r := liOp Try.prog Try.f3 0 0) rfl li_op0 (I := LiI vs len) (fun ρ h => by rw [li_cx]; exact h.cx hl) (by rw [← hρ1]; exact hI.g) (li_sp f1) ⟨?_, ?_, lvS_done ?_ ?_ ?_ ?_ ?_ ?_⟩ hM1
  · intro _
    rw [mR1, t_le, hE]
    show ρ1.i 2 ≤ _
    rw [j2]
    exact nr.2.2.2.1
  · intro _
    rw [mR2, t_le, hE]
    show _ ≤ ρ1.i 2 + 2048
    rw [j2]
    exact nr.2.2.2.2.1
  · show ((den ρ1 (pD 53)).s.toList == (den ρ1 (rD 55)).s.toList) = true
    rw [e53, e55]
    have hstr : rdS (byteQ (ρ.c 0)) (ρ.i 2) (rdN (ρ.c 2) (ρ.i 2) (intAt cs 1)).toNat = rdS (byteM (ρ.c 2)) (ρ.i 2) (rdN (ρ.c 2) (ρ.i 2) (intAt cs 1)).toNat := hstr
    rw [hstr]
    exact beq_self_eq_true _
  · rw [e33]; exact j3.trans hnx
  · rw [e34]; exact k0.trans hov
  · rw [e30]
    show ρ1.i 3 = _ + if ρ1.b 0 = true then 1 else 0
    rw [j3, k0, hnx, hov]
    rfl
  · rw [e59, e58]
  · intro β1 u1
    have h0 := hI.i0
    have h1 := hI.i1
    have g0 : ∀ n, ({ ρ1.sub β1 bkR with u := u1 } : Env).v n = ρ.v n := fun n => by rw [← hρ1]; rfl
    refine ⟨⟨fun i => by rw [g0]; exact hI.g i, (g0 0).trans hI.v, f1, ?_, ?_, ?_, ?_, ?_⟩, ?_⟩
    · show 0 ≤ ρ1.i 0 + 1
      rw [← hρ1]; show 0 ≤ ρ.i 0 + 1; omega
    · show ρ1.i 0 + 1 ≤ ρ1.i 1
      rw [← hρ1]; show ρ.i 0 + 1 ≤ ρ.i 1; omega
    · show ρ1.i 1 = _
      rw [← hρ1]; exact h1
    · show QRel ⟨ρ1.c 0, ρ1.c 1, (den ρ1 (pD 59)).i, ρ1.i 3, ρ1.i 4, ρ1.b 0⟩ (ρ1.c 2) (ρ1.i 6)
      rw [e59, jc, j6, j3, k0, ← hρ1]
      exact hrel
    · show (den ρ1 (rD 58)).i = (den ρ1 (pD 59)).i
      rw [e58, e59]
    · show (ρ1.i 1 - (ρ1.i 0 + 1)).toNat < (ρ.i 1 - ρ.i 0).toNat
      rw [← hρ1]
      show (ρ.i 1 - (ρ.i 0 + 1)).toNat < _
      omega
theorem rel0 : QRel ⟨R0, H0, 1, 1, -1, false⟩ [] 0 := by
  have hg : GoodM ([] : List (List Value)) := fun r hr => by cases hr
  have hgap : gap [] 1 = 1 := gap_eq hg (Int.le_refl 1) rfl fun p h1 h2 => by omega
  have hh : ∀ p, hasB H0 p = false := fun p => by
    unfold hasB H0
    have hlt := mod_lt p
    have e : (List.replicate 2048 [Value.bool false]).getD (p % 2048).toNat [] = [.bool false] := by
      rw [List.getD, List.getElem?_replicate, if_pos hlt]
      rfl
    rw [e]
    rfl
  refine ⟨qok0, hg, by decide, Int.le_refl 1, Int.le_refl 0, by decide, ?_, ?_, rfl, ?_, ?_, ?_, by decide⟩
  · unfold rOver
    rfl
  · unfold rNext rOver
    rw [hgap]
    rfl
  · intro p _ _
    show hasB H0 p = true ↔ gap [] 1 ≤ p ∧ lookM [] p ≠ none
    rw [hh]
    exact ⟨fun q => (by cases q), fun q => absurd rfl q.2⟩
  · intro p _ _ b hb
    cases hb
  · intro p hp
    exact absurd rfl hp
set_option maxRecDepth 100000 in
set_option maxHeartbeats 2000000 in
theorem walk_inqSays (w : World) (a : Option Addr) (len cap : Nat) (o : OpenedK 140737488355328 stepLeaves w a len cap) (hl : len ≤ 140737488355328) :
    Calls Try.prog 3 #[.slice a len cap] w fun e w' => e = .returned (.bool true) ∧ Below w.heap.size w w' := by
  obtain ⟨C, hC0⟩ := came_ofK o
  have hC : ∀ i, i < len → ∃ b off cap', Value.slice a len cap = .slice (some ⟨b, off, none⟩) len cap' ∧ (leafAll stepLeaves (C i) ∧ ∀ v ∈ C i, strLe 140737488355328 v) ∧ w.rangeAt b (off + i * 45) (C i) := fun i hi => by
    obtain ⟨b, off, h1, h2, h3, h4⟩ := hC0 i hi
    exact ⟨b, off, cap, h1, ⟨h2, h3⟩, h4⟩
  let ρ0 : Env := { mkEnv0 [0, (len : Int)] [] [] [.slice a len cap] with f := lawG }
  have hg0 : ρ0.good := fun i => by
    rcases i with _ | i
    · rfl
    · rfl
  have hM0 : Md ρ0 (fun _ => False) w (fun _ => 0) 0 ⟨[], [], ⟨[], []⟩, 0⟩ (fun _ => 0) ⟨#[], []⟩ w := Sy.Md.start ⟨fun _ h => (by cases h), fun _ h => (by cases h)⟩
  refine (calls_pre (B := ⟨ρ0, fun _ => False, w, fun _ => 0, 0⟩) (sp := [newQSp]) (p := liP) (xs := [.one (.c (.opq 0))]) (s := ⟨[], [], ⟨[], []⟩, 0⟩) (r := liPre Try.prog Try.f3) hg0 (fun q hq => by rw [List.mem_singleton.1 hq]; exact newQSp_ok rfl) rfl Try.func3 rfl rfl li_pre hM0 (R := fun v w' => v = .bool true ∧ Below w.heap.size w w') ⟨?_, trivial⟩ rfl).mono ?_
  · intro _ β a1 w1 hM1
    obtain ⟨tm1, tm2⟩ := Prod.mk.inj li_tm
    refine says_loopG li_code (a0 := a) (cap := cap) (G := fun cs => ∀ v ∈ cs, strLe 140737488355328 v) (I := LiI (.slice a len cap) len) (fun g _ h => h) hC (fun ρ h => ⟨h.g, h.v, h.i0, h.le, h.i1⟩) ?_ ?_ (show ρ0.v 0 = .slice a len cap from rfl) (show ρ0.i 1 = (len : Int) from rfl) tm1 tm2 li_okP ?_ hM1
    · intro ρ hI hlt cs hcs u β a w1 hM Q
      by_cases h4 : intAt cs 0 % 4 = 0
      · exact li_read hl hI hlt hcs.1 hcs.2 h4 hM
      · exact li_put hl hI hlt hcs.1 hcs.2 (by omega) hM
    · intro ρ hI he β a w1 hM
      have nr := hI.rel.next_rng
      have i5 := hI.i5
      have hE : qdEnd (qOf ρ) = gap (ρ.c 2) (ρ.i 2) := nr.2.2.2.2.2
      have hg : (den ρ gEnd).i = 2048 - (gap (ρ.c 2) (ρ.i 2) - ρ.i 2) := by
        show 2048 - ((ρ.f 30 _ _ _).i - ρ.i 5) = _
        rw [hI.f, i5]
        show 2048 - (gap (ρ.c 2) (ρ.i 5) - ρ.i 2) = _
        rw [i5]
      refine aft_fin (B := ⟨ρ, fun _ => False, w, fun _ => 0, 0⟩) hI.g (li_sp hI.f) rfl .normal li_end ⟨?_, ?_, trivial⟩ hM
      · intro hpc β w2 hH
        refine ⟨?_, Sy.Only.below_all hH.only⟩
        have ho : ρ.b 0 = true := hpc.1
        show Value.bool ((2048 - (ρ.i 3 + -1 - ρ.i 2)) == (den ρ gEnd).i) = _
        rw [hg, ← hE]
        have : qdEnd (qOf ρ) = ρ.i 3 - 1 := by unfold qdEnd; show (if ρ.b 0 = true then ρ.i 3 - 1 else ρ.i 3) = _; rw [if_pos ho]
        rw [this]
        congr 1
        rw [beq_iff_eq]
        omega
      · intro hpc β w2 hH
        refine ⟨?_, Sy.Only.below_all hH.only⟩
        have ho : ¬ ρ.b 0 = true := by
          have := hpc.1
          rwa [t_not] at this
        show Value.bool ((2048 - (ρ.i 3 - ρ.i 2)) == (den ρ gEnd).i) = _
        rw [hg, ← hE]
        have : qdEnd (qOf ρ) = ρ.i 3 := by unfold qdEnd; show (if ρ.b 0 = true then ρ.i 3 - 1 else ρ.i 3) = _; rw [if_neg ho]
        rw [this]
        congr 1
        exact beq_self_eq_true _
    · intro β ac w1 hM
      have hI0 : ∀ u, LiI (.slice a len cap) len { ρ0.sub β [.i 0 (.il 0), .i 5 (.il 1), .i 6 (.il 0), .c 2 tn, .i 2 (.il 1), .i 3 (.il 1), .i 4 (.il (-1)), .b 0 (.bl false), .c 0 (tn0 40), .c 1 (tn0 41)] with u := u } := fun u => ⟨hg0, rfl, rfl, Int.le_refl 0, (by show (0 : Int) ≤ (len : Int); omega), rfl, rel0, rfl⟩
      obtain ⟨u, β', hM5⟩ := Sy.Md.enter hM li_in fun u => by rw [li_cx]; exact (hI0 u).cx hl
      exact ⟨_, β', hI0 u, hM5⟩
  · rintro e w' ⟨v, rfl, rfl, hb⟩
    exact ⟨rfl, hb⟩
end
end Go.Proofs.Ytnjpoidpfcfbeaa
