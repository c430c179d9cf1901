/- What comes in: New, Put, Read of both in letters. -/
import Derived.Test.YtnjpoidpfcfbeaaIqD
namespace Go.Proofs.Ytnjpoidpfcfbeaa
open Go.RowKit Sy
set_option linter.unusedVariables false
set_option linter.unusedSimpArgs false

def i64Need (c : Cx) (a : Tm) : List Tm := need c (.le (.il (-9223372036854775808)) a) ++ need c (.le a (.il 9223372036854775807))
theorem i64Need_ok {ρ : Env} {c : Cx} (hc : c.ok ρ) {a : Tm} (h : Sy.Met ρ (i64Need c a)) : -9223372036854775808 ≤ (den ρ a).i ∧ (den ρ a).i ≤ 9223372036854775807 := ⟨le_of (need_ok hc h.l), le_of (need_ok hc h.r)⟩
def yPut (r f a s ff : Tm) : Tm := zInt r (zInt f (zInt a (zStr s (zBool ff trow))))
def yRead (r a : Tm) : Tm := zInt r (zInt a trow)
def zPut (r n f o a s ff : Tm) : Tm := zInt r (zInt n (zInt f (zBool o (zInt a (zStr s (zBool ff trow))))))
def zRead (r n f o a : Tm) : Tm := zInt r (zInt n (zInt f (zBool o (zInt a trow))))
def lawG : Nat → Dn → Dn → Dn → Dn := fun n x y z =>
  if n = 58 then dI (intAt (y.c.headD []) 0 + rdN x.c (intAt (y.c.headD []) 0) (intAt (y.c.headD []) 1))
  else if n = 59 then dI (intAt (z.c.headD []) 0 + qdN (qsOf x y z) (intAt (z.c.headD []) 4))
  else lawF n x y z
theorem rxNeed_ok' {ρ : Env} (hf : ρ.f = lawG) {c : Cx} (hc : c.ok ρ) {t r f : Tm} (hg : GoodM (den ρ t).c) (h : Sy.Met ρ (rxNeed c t r f)) : RxIn (den ρ t).c (den ρ r).i (den ρ f).i := by
  have h1 := le_of (need_ok hc h.l)
  have h2 := le_of (need_ok hc h.r.l)
  have h3 := le_of (need_ok hc h.r.r.l)
  have h4 := le_of (need_ok hc h.r.r.r.l)
  have h5 := le_of (need_ok hc h.r.r.r.r)
  have e : (den ρ (.ap 31 t (.il 0) (.il 0))).i = keyMax (den ρ t).c := by
    show (ρ.f 31 _ _ _).i = _
    rw [hf]
    rfl
  rw [e] at h5
  exact ⟨hg, h5, h1, h2, h3, h4⟩
def KB (t : Tm) : Bd := ⟨t, 0, 1153202979583557632⟩
def putRSel (s : Sy.St) : List SV → Option Did
  | [.one (.c (.ptr l 0)), .one (.c (.int .i64 a)), .one (.c (.str b)), .one (.c (.bool ff))] => match ownIn s l with
    | some (m, t, r, f) => some ⟨rxNeed s.cx t r f ++ (i64Need s.cx a ++ need s.cx (.le (mkLen s.cx b) (.il 140737488355328))), [], [inO l m true r (.ap 51 t (yPut r f a b ff) (.il 0)), inT m true (.ap 50 t (yPut r f a b ff) (.il 0))], [], .one (.c (.bool (.ap 52 t (yPut r f a b ff) (.il 0)))), [KB (.ap 51 t (yPut r f a b ff) (.il 0)), KB (kmT (.ap 50 t (yPut r f a b ff) (.il 0)))]⟩
    | none => none
  | _ => none
def readRSel (s : Sy.St) : List SV → Option Did
  | [.one (.c (.ptr l 0)), .one (.c (.int .i64 a))] => match ownIn s l with
    | some (m, t, r, f) => some ⟨rxNeed s.cx t r f ++ i64Need s.cx a, [], [inO l m true (.ap 58 t (yRead r a) (.il 0)) f, inT m true t], [], .one (.c (.str (.ap 55 t (yRead r a) (.il 0)))), [KB (.ap 58 t (yRead r a) (.il 0))]⟩
    | none => none
  | _ => none
def putQSel (s : Sy.St) : List SV → Option Did
  | [.one (.c (.ptr l 0)), .one (.c (.int .i64 a)), .one (.c (.str b)), .one (.c (.bool ff))] => match ownQu s l with
    | some (R, H, r, n, f, o) => some ⟨need s.cx (.le (.il 0) r) ++ (need s.cx (.le r K60T) ++ (need s.cx (.le r n) ++ ([.or (.le n (.add r (.il 2048))) o] ++ (need s.cx (.le n L61) ++ (need s.cx (.le (.il (-1)) f) ++ (need s.cx (.le f K60T) ++ (i64Need s.cx a ++ need s.cx (.le (mkLen s.cx b) (.il 140737488355328))))))))), [], [quO l true (.ap 42 R H (zPut r n f o a b ff)) (.ap 43 R H (zPut r n f o a b ff)) r (.ap 44 R H (zPut r n f o a b ff)) (.ap 45 R H (zPut r n f o a b ff)) (.ap 46 R H (zPut r n f o a b ff))], [], .one (.c (.bool (.ap 47 R H (zPut r n f o a b ff)))), [B61 (.ap 44 R H (zPut r n f o a b ff)), ⟨.ap 45 R H (zPut r n f o a b ff), -1, 2305843009213693952⟩]⟩
    | none => none
  | _ => none
def endT (n o : Tm) : Tm := .ite o (.add n (.il (-1))) n
def readQSel (s : Sy.St) : List SV → Option Did
  | [.one (.c (.ptr l 0)), .one (.c (.int .i64 a))] => match ownQu s l with
    | some (R, H, r, n, f, o) => some ⟨need s.cx (.le (.il 0) r) ++ (need s.cx (.le r K60T) ++ ([.le r (endT n o)] ++ ([.le (endT n o) (.add r (.il 2048))] ++ i64Need s.cx a))), [], [quO l true R H (.ap 59 R H (zRead r n f o a)) n f o], [], .one (.c (.str (.ap 53 R H (zRead r n f o a)))), [B61 (.ap 59 R H (zRead r n f o a))]⟩
    | none => none
  | _ => none
def newQSel (s : Sy.St) : List SV → Option Did
  | [] => some ⟨[], [], [], [quO s.nx true (.ap 40 (.il 0) (.il 0) (.il 0)) (.ap 41 (.il 0) (.il 0) (.il 0)) (.il 1) (.il 1) (.il (-1)) (.bl false)], .one (.c (.ptr s.nx 0)), []⟩
  | _ => none
def putRSp : Sy.Spec := chgSp 12 putRSel
def readRSp : Sy.Spec := chgSp 14 readRSel
def putQSp : Sy.Spec := chgSp 11 putQSel
def readQSp : Sy.Spec := chgSp 13 readQSel
def newQSp : Sy.Spec := chgSp 8 newQSel
theorem qpPut_next {s : QS} {at_ : Int} {body : ByteArray} {ff : Bool} (h : QpIn s at_ body) : 0 ≤ (qpPut s at_ body ff).next ∧ (qpPut s at_ body ff).next ≤ 2305843009213693952 := by
  obtain ⟨ok, r0, r1, n0, n1, n2, f0, f1, _, _, _⟩ := h
  unfold qpPut
  split
  · omega
  · rename_i hb
    obtain ⟨ho, _⟩ := qp_nobar (by simpa using hb)
    have hed : qpEd s = s.read + 2048 := by unfold qpEd; omega
    have hn : s.next ≤ qpEd s := by
      rcases n1 with q | q
      · omega
      · rw [ho] at q; cases q
    have hok : QuOk (qpL s at_ body).1 (qpL s at_ body).2 := loopQ_ok (s := (s.R, s.H)) ok
    obtain ⟨a1, a2, _⟩ := advQ_spec (ed := qpEd s) (W := s.read) (by omega) (qpEd s - s.next).toNat s.next (qpL s at_ body).2 hok.hl hok.hk (by omega) (by omega) (by omega)
    have a1 : s.next ≤ (qpN s at_ body).1 := a1
    have a2 : (qpN s at_ body).1 ≤ qpEd s := a2
    show 0 ≤ (qpN s at_ body).1 + _ ∧ (qpN s at_ body).1 + _ ≤ _
    split <;> omega
section
variable {ρ : Env}
theorem newQSp_ok (hf : ρ.f = lawG) : newQSp.Ok Try.prog ρ := by
  refine chgSp_ok fun {s xs d} hs hc hm {β w} hb hne => ?_
  unfold newQSel at hs
  split at hs
  · injection hs with hs
    subst hs
    refine ⟨fun x hx => (by cases hx), ?_⟩
    refine (nw_calls w).mono ?_
    rintro e' w' ⟨v, rfl, g, rfl, hg, hB, hbel⟩
    refine ⟨upd β s.nx g, ?_, Only.of_below hbel _, fun l hl => upd_old (by omega), fun b hb => (by cases hb), fun b hb' => ?_, fun b hb' hr => ?_, fun x hx y hy hxy => ?_⟩
    · show _ = Ending.returned (.pointer (some ⟨upd β s.nx g s.nx, 0, none⟩))
      rw [upd_new]
    · rw [List.mem_singleton.1 hb']
      have e0 : (den ρ (.ap 40 (.il 0) (.il 0) (.il 0))).c = R0 := by show (ρ.f 40 _ _ _).c = _; rw [hf]; rfl
      have e1 : (den ρ (.ap 41 (.il 0) (.il 0) (.il 0))).c = H0 := by show (ρ.f 41 _ _ _).c = _; rw [hf]; rfl
      refine quO_ok.2 ?_
      rw [e0, e1, upd_new]
      exact ⟨hB, qok0⟩
    · rw [List.mem_singleton.1 hb']
      refine .inr ?_
      show _ ≤ upd β s.nx g s.nx
      rw [upd_new]
      exact hg
    · rw [List.mem_singleton.1 hx, List.mem_singleton.1 hy] at hxy
      exact absurd rfl hxy
  · cases hs
theorem nextSp_ok' (hf : ρ.f = lawG) : nextSp.Ok Try.prog ρ := by
  refine chgSp_ok fun {s xs d} hs hc hm {β w} hb hne => ?_
  unfold nextSel at hs
  split at hs
  · rename_i l
    split at hs
    · rename_i m t r f ho
      injection hs with hs
      subst hs
      have O := ownIn_ok (β := β) (w := w) ho hb hne
      have hi := rxNeed_ok' hf hc O.map.ok hm
      have e : (den ρ (.ap 33 t r f)).i = rNext (den ρ t).c (den ρ r).i (den ρ f).i := by
        show (ρ.f 33 _ _ _).i = _
        rw [hf]
        rfl
      refine ⟨?_, ?_⟩
      · intro x hx
        rw [List.mem_singleton.1 hx]
        show (0 : Int) ≤ (den ρ (.ap 33 t r f)).i ∧ (den ρ (.ap 33 t r f)).i ≤ 2305843009213693952
        rw [e]
        have g1 := gap_le hi.g (den ρ r).i
        have g2 := (gap_spec hi.g (den ρ r).i).1
        have := hi.k
        have := hi.r1
        have := hi.r0
        unfold rNext
        split <;> omega
      · refine (rnext_calls hi O.blk O.map O.ne).mono ?_
        rintro e' w' ⟨v, rfl, rfl, h1, h2, h3⟩
        refine ⟨β, ?_, chg_two (b := inO l m true r f) (c := inT m true t) h3 h1 h2⟩
        show _ = Ending.returned (.int .i64 (den ρ (.ap 33 t r f)).i)
        rw [e]
    · cases hs
  · cases hs
theorem overSp_ok' (hf : ρ.f = lawG) : overSp.Ok Try.prog ρ := by
  refine chgSp_ok fun {s xs d} hs hc hm {β w} hb hne => ?_
  unfold overSel at hs
  split at hs
  · rename_i l
    split at hs
    · rename_i m t r f ho
      injection hs with hs
      subst hs
      have O := ownIn_ok (β := β) (w := w) ho hb hne
      have hi := rxNeed_ok' hf hc O.map.ok hm
      have e : (den ρ (.ap 34 t r f)).b = rOver (den ρ t).c (den ρ r).i (den ρ f).i := by
        show (ρ.f 34 _ _ _).b = _
        rw [hf]
        rfl
      refine ⟨fun x hx => (by cases hx), ?_⟩
      refine (rover_calls hi O.blk O.map O.ne).mono ?_
      rintro e' w' ⟨v, rfl, rfl, h1, h2, h3⟩
      refine ⟨β, ?_, chg_two (b := inO l m true r f) (c := inT m true t) h3 h1 h2⟩
      show _ = Ending.returned (.bool (den ρ (.ap 34 t r f)).b)
      rw [e]
    · cases hs
  · cases hs
theorem putRSp_ok (hf : ρ.f = lawG) : putRSp.Ok Try.prog ρ := by
  refine chgSp_ok fun {s xs d} hs hc hm {β w} hb hne => ?_
  unfold putRSel at hs
  split at hs
  · rename_i l a b ff
    split at hs
    · rename_i m t r f ho
      injection hs with hs
      subst hs
      have O := ownIn_ok (β := β) (w := w) ho hb hne
      have hi := rxNeed_ok' hf hc O.map.ok hm.l
      obtain ⟨a0, a1⟩ := i64Need_ok hc hm.r.l
      have hl := le_of (need_ok hc hm.r.r)
      rw [mkLen_ok hc] at hl
      have hl : ((den ρ b).s.size : Int) ≤ 140737488355328 := hl
      have hp : RpIn (den ρ t).c (den ρ r).i (den ρ f).i (den ρ a).i (den ρ b).s := ⟨hi.g, hi.k, hi.r0, hi.r1, hi.f0, hi.f1, a0, a1, by omega⟩
      have e51 : (den ρ (.ap 51 t (yPut r f a b ff) (.il 0))).i = rpFin (den ρ t).c (den ρ r).i (den ρ f).i (den ρ a).i (den ρ b).s (den ρ ff).b := by show (ρ.f 51 _ _ _).i = _; rw [hf]; rfl
      have e50 : (den ρ (.ap 50 t (yPut r f a b ff) (.il 0))).c = rpMap (den ρ t).c (den ρ r).i (den ρ f).i (den ρ a).i (den ρ b).s := by show (ρ.f 50 _ _ _).c = _; rw [hf]; rfl
      have e52 : (den ρ (.ap 52 t (yPut r f a b ff) (.il 0))).b = rpRet (den ρ t).c (den ρ r).i (den ρ f).i (den ρ a).i (den ρ b).s (den ρ ff).b := by show (ρ.f 52 _ _ _).b = _; rw [hf]; rfl
      have ek : (den ρ (kmT (.ap 50 t (yPut r f a b ff) (.il 0)))).i = keyMax (rpMap (den ρ t).c (den ρ r).i (den ρ f).i (den ρ a).i (den ρ b).s) := by
        show (ρ.f 31 _ _ _).i = _
        rw [hf]
        show keyMax (den ρ (.ap 50 t (yPut r f a b ff) (.il 0))).c = _
        rw [e50]
      refine ⟨?_, ?_⟩
      · intro x hx
        rcases List.mem_cons.1 hx with rfl | hx
        · show (0 : Int) ≤ (den ρ (.ap 51 t (yPut r f a b ff) (.il 0))).i ∧ (den ρ (.ap 51 t (yPut r f a b ff) (.il 0))).i ≤ 1153202979583557632
          rw [e51]
          exact rpFin_rng hp
        · rw [List.mem_singleton.1 hx]
          show (0 : Int) ≤ (den ρ (kmT (.ap 50 t (yPut r f a b ff) (.il 0)))).i ∧ (den ρ (kmT (.ap 50 t (yPut r f a b ff) (.il 0)))).i ≤ 1153202979583557632
          rw [ek]
          exact ⟨keyMax_nonneg _, hp.map.2⟩
      · refine (rput_calls (ff := (den ρ ff).b) hp O.blk O.map O.ne).mono ?_
        rintro e' w' ⟨v, rfl, rfl, h1, h2, h3⟩
        refine ⟨β, ?_, chg_two (b := inO l m true r (.ap 51 t (yPut r f a b ff) (.il 0))) (c := inT m true (.ap 50 t (yPut r f a b ff) (.il 0))) h3 ?_ ?_⟩
        · show _ = Ending.returned (.bool (den ρ (.ap 52 t (yPut r f a b ff) (.il 0))).b)
          rw [e52]
        · show Blk w' (β l) _ (inCells (β m) (den ρ r).i (den ρ (.ap 51 t (yPut r f a b ff) (.il 0))).i)
          rw [e51]
          exact h1
        · show MapT w' (β m) _ _ _ (den ρ (.ap 50 t (yPut r f a b ff) (.il 0))).c
          rw [e50]
          exact h2
    · cases hs
  · cases hs
theorem readRSp_ok (hf : ρ.f = lawG) : readRSp.Ok Try.prog ρ := by
  refine chgSp_ok fun {s xs d} hs hc hm {β w} hb hne => ?_
  unfold readRSel at hs
  split at hs
  · rename_i l a
    split at hs
    · rename_i m t r f ho
      injection hs with hs
      subst hs
      have O := ownIn_ok (β := β) (w := w) ho hb hne
      have hi := rxNeed_ok' hf hc O.map.ok hm.l
      obtain ⟨a0, a1⟩ := i64Need_ok hc hm.r
      have hp : RdIn (den ρ t).c (den ρ r).i (den ρ f).i (den ρ a).i := ⟨hi.g, hi.k, hi.r0, hi.r1, hi.f0, hi.f1, a0, a1⟩
      have e58 : (den ρ (.ap 58 t (yRead r a) (.il 0))).i = (den ρ r).i + rdN (den ρ t).c (den ρ r).i (den ρ a).i := by show (ρ.f 58 _ _ _).i = _; rw [hf]; rfl
      have e55 : (den ρ (.ap 55 t (yRead r a) (.il 0))).s = rdS (byteM (den ρ t).c) (den ρ r).i (rdN (den ρ t).c (den ρ r).i (den ρ a).i).toNat := by show (ρ.f 55 _ _ _).s = _; rw [hf]; rfl
      refine ⟨?_, ?_⟩
      · intro x hx
        rw [List.mem_singleton.1 hx]
        show (0 : Int) ≤ (den ρ (.ap 58 t (yRead r a) (.il 0))).i ∧ (den ρ (.ap 58 t (yRead r a) (.il 0))).i ≤ 1153202979583557632
        rw [e58]
        have := rdN_rng hp
        have := hi.r0
        omega
      · refine (rread_calls hp O.blk O.map O.ne).mono ?_
        rintro e' w' ⟨v, rfl, rfl, h1, h2, h3⟩
        refine ⟨β, ?_, chg_two (b := inO l m true (.ap 58 t (yRead r a) (.il 0)) f) (c := inT m true t) h3 ?_ h2⟩
        · show _ = Ending.returned (.string (den ρ (.ap 55 t (yRead r a) (.il 0))).s)
          rw [e55]
        · show Blk w' (β l) _ (inCells (β m) (den ρ (.ap 58 t (yRead r a) (.il 0))).i (den ρ f).i)
          rw [e58]
          exact h1
    · cases hs
  · cases hs
theorem putQSp_ok (hf : ρ.f = lawG) : putQSp.Ok Try.prog ρ := by
  refine chgSp_ok fun {s xs d} hs hc hm {β w} hb hne => ?_
  unfold putQSel at hs
  split at hs
  · rename_i l a b ff
    split at hs
    · rename_i R H r n f o ho
      injection hs with hs
      subst hs
      have O := ownQu_ok (β := β) (w := w) ho hb
      have m1 := le_of (need_ok hc hm.l)
      have m2 := le_of (need_ok hc hm.r.l)
      have m3 := le_of (need_ok hc hm.r.r.l)
      have m4 := hm.r.r.r.l _ (List.mem_cons_self ..)
      have m5 := le_of (need_ok hc hm.r.r.r.r.l)
      have m6 := le_of (need_ok hc hm.r.r.r.r.r.l)
      have m7 := le_of (need_ok hc hm.r.r.r.r.r.r.l)
      obtain ⟨a0, a1⟩ := i64Need_ok hc hm.r.r.r.r.r.r.r.l
      have hl := le_of (need_ok hc hm.r.r.r.r.r.r.r.r)
      rw [mkLen_ok hc] at hl
      have hl : ((den ρ b).s.size : Int) ≤ 140737488355328 := hl
      rw [t_or, t_le] at m4
      have hp : QpIn ⟨(den ρ R).c, (den ρ H).c, (den ρ r).i, (den ρ n).i, (den ρ f).i, (den ρ o).b⟩ (den ρ a).i (den ρ b).s := ⟨O.ok, m1, m2, m3, m4, m5, m6, m7, a0, a1, by omega⟩
      have e42 : (den ρ (.ap 42 R H (zPut r n f o a b ff))).c = (qpPut ⟨(den ρ R).c, (den ρ H).c, (den ρ r).i, (den ρ n).i, (den ρ f).i, (den ρ o).b⟩ (den ρ a).i (den ρ b).s (den ρ ff).b).R := by show (ρ.f 42 _ _ _).c = _; rw [hf]; rfl
      have e43 : (den ρ (.ap 43 R H (zPut r n f o a b ff))).c = (qpPut ⟨(den ρ R).c, (den ρ H).c, (den ρ r).i, (den ρ n).i, (den ρ f).i, (den ρ o).b⟩ (den ρ a).i (den ρ b).s (den ρ ff).b).H := by show (ρ.f 43 _ _ _).c = _; rw [hf]; rfl
      have e44 : (den ρ (.ap 44 R H (zPut r n f o a b ff))).i = (qpPut ⟨(den ρ R).c, (den ρ H).c, (den ρ r).i, (den ρ n).i, (den ρ f).i, (den ρ o).b⟩ (den ρ a).i (den ρ b).s (den ρ ff).b).next := by show (ρ.f 44 _ _ _).i = _; rw [hf]; rfl
      have e45 : (den ρ (.ap 45 R H (zPut r n f o a b ff))).i = (qpPut ⟨(den ρ R).c, (den ρ H).c, (den ρ r).i, (den ρ n).i, (den ρ f).i, (den ρ o).b⟩ (den ρ a).i (den ρ b).s (den ρ ff).b).fin := by show (ρ.f 45 _ _ _).i = _; rw [hf]; rfl
      have e46 : (den ρ (.ap 46 R H (zPut r n f o a b ff))).b = (qpPut ⟨(den ρ R).c, (den ρ H).c, (den ρ r).i, (den ρ n).i, (den ρ f).i, (den ρ o).b⟩ (den ρ a).i (den ρ b).s (den ρ ff).b).over := by show (ρ.f 46 _ _ _).b = _; rw [hf]; rfl
      have e47 : (den ρ (.ap 47 R H (zPut r n f o a b ff))).b = qpRet ⟨(den ρ R).c, (den ρ H).c, (den ρ r).i, (den ρ n).i, (den ρ f).i, (den ρ o).b⟩ (den ρ a).i (den ρ b).s (den ρ ff).b := by show (ρ.f 47 _ _ _).b = _; rw [hf]; rfl
      have hread : (qpPut ⟨(den ρ R).c, (den ρ H).c, (den ρ r).i, (den ρ n).i, (den ρ f).i, (den ρ o).b⟩ (den ρ a).i (den ρ b).s (den ρ ff).b).read = (den ρ r).i := by unfold qpPut; split <;> rfl
      refine ⟨?_, ?_⟩
      · intro x hx
        rcases List.mem_cons.1 hx with rfl | hx
        · show (0 : Int) ≤ (den ρ (.ap 44 R H (zPut r n f o a b ff))).i ∧ (den ρ (.ap 44 R H (zPut r n f o a b ff))).i ≤ 2305843009213693952
          rw [e44]
          exact qpPut_next hp
        · rw [List.mem_singleton.1 hx]
          show (-1 : Int) ≤ (den ρ (.ap 45 R H (zPut r n f o a b ff))).i ∧ (den ρ (.ap 45 R H (zPut r n f o a b ff))).i ≤ 2305843009213693952
          rw [e45]
          have h1 := qpF_rng (ff := (den ρ ff).b) hp
          unfold qpPut
          split
          · have h2 := hp.f0
            have h3 := hp.f1
            show -1 ≤ (den ρ f).i ∧ (den ρ f).i ≤ _
            have h2 : -1 ≤ (den ρ f).i := h2
            have h3 : (den ρ f).i ≤ 1153202979583557632 := h3
            omega
          · exact h1
      · refine (qput_calls (ff := (den ρ ff).b) hp O.blk).mono ?_
        rintro e' w' ⟨v, rfl, rfl, h1, h2, h3⟩
        refine ⟨β, ?_, chg_one (b := quO l true (.ap 42 R H (zPut r n f o a b ff)) (.ap 43 R H (zPut r n f o a b ff)) r (.ap 44 R H (zPut r n f o a b ff)) (.ap 45 R H (zPut r n f o a b ff)) (.ap 46 R H (zPut r n f o a b ff))) h3 (quO_ok.2 ?_)⟩
        · show _ = Ending.returned (.bool (den ρ (.ap 47 R H (zPut r n f o a b ff))).b)
          rw [e47]
        · rw [e42, e43, e44, e45, e46]
          refine ⟨?_, h2⟩
          unfold qCells at h1
          rw [hread] at h1
          exact h1
    · cases hs
  · cases hs
theorem readQSp_ok (hf : ρ.f = lawG) : readQSp.Ok Try.prog ρ := by
  refine chgSp_ok fun {s xs d} hs hc hm {β w} hb hne => ?_
  unfold readQSel at hs
  split at hs
  · rename_i l a
    split at hs
    · rename_i R H r n f o ho
      injection hs with hs
      subst hs
      have O := ownQu_ok (β := β) (w := w) ho hb
      have m1 := le_of (need_ok hc hm.l)
      have m2 := le_of (need_ok hc hm.r.l)
      have m3 := hm.r.r.l _ (List.mem_cons_self ..)
      have m4 := hm.r.r.r.l _ (List.mem_cons_self ..)
      obtain ⟨a0, a1⟩ := i64Need_ok hc hm.r.r.r.r
      have hE : (den ρ (endT n o)).i = qdEnd ⟨(den ρ R).c, (den ρ H).c, (den ρ r).i, (den ρ n).i, (den ρ f).i, (den ρ o).b⟩ := by
        rw [endT, i_ite]
        rfl
      rw [t_le, hE] at m3 m4
      have hp : QdIn ⟨(den ρ R).c, (den ρ H).c, (den ρ r).i, (den ρ n).i, (den ρ f).i, (den ρ o).b⟩ (den ρ a).i := ⟨O.ok, m1, m2, m3, m4, a0, a1⟩
      have e59 : (den ρ (.ap 59 R H (zRead r n f o a))).i = (den ρ r).i + qdN ⟨(den ρ R).c, (den ρ H).c, (den ρ r).i, (den ρ n).i, (den ρ f).i, (den ρ o).b⟩ (den ρ a).i := by show (ρ.f 59 _ _ _).i = _; rw [hf]; rfl
      have e53 : (den ρ (.ap 53 R H (zRead r n f o a))).s = rdS (byteQ (den ρ R).c) (den ρ r).i (qdN ⟨(den ρ R).c, (den ρ H).c, (den ρ r).i, (den ρ n).i, (den ρ f).i, (den ρ o).b⟩ (den ρ a).i).toNat := by show (ρ.f 53 _ _ _).s = _; rw [hf]; rfl
      refine ⟨?_, ?_⟩
      · intro x hx
        rw [List.mem_singleton.1 hx]
        show (0 : Int) ≤ (den ρ (.ap 59 R H (zRead r n f o a))).i ∧ (den ρ (.ap 59 R H (zRead r n f o a))).i ≤ 2305843009213693952
        rw [e59]
        have m1 : 0 ≤ (den ρ r).i := m1
        have m2 : (den ρ r).i ≤ 1153202979583557632 := m2
        have m3 : (den ρ r).i ≤ qdEnd ⟨(den ρ R).c, (den ρ H).c, (den ρ r).i, (den ρ n).i, (den ρ f).i, (den ρ o).b⟩ := m3
        have m4 : qdEnd ⟨(den ρ R).c, (den ρ H).c, (den ρ r).i, (den ρ n).i, (den ρ f).i, (den ρ o).b⟩ ≤ (den ρ r).i + 2048 := m4
        show 0 ≤ (den ρ r).i + min (max (den ρ a).i 0) (qdEnd ⟨(den ρ R).c, (den ρ H).c, (den ρ r).i, (den ρ n).i, (den ρ f).i, (den ρ o).b⟩ - (den ρ r).i) ∧ (den ρ r).i + min (max (den ρ a).i 0) (qdEnd ⟨(den ρ R).c, (den ρ H).c, (den ρ r).i, (den ρ n).i, (den ρ f).i, (den ρ o).b⟩ - (den ρ r).i) ≤ _
        omega
      · refine (qread_calls hp O.blk).mono ?_
        rintro e' w' ⟨v, rfl, rfl, h1, h3⟩
        refine ⟨β, ?_, chg_one (b := quO l true R H (.ap 59 R H (zRead r n f o a)) n f o) h3 (quO_ok.2 ?_)⟩
        · show _ = Ending.returned (.string (den ρ (.ap 53 R H (zRead r n f o a))).s)
          rw [e53]
        · rw [e59]
          exact ⟨h1, O.ok⟩
    · cases hs
  · cases hs
theorem bySp_ok' (hf : ρ.f = lawG) : bySp.Ok Try.prog ρ := bySp_ok (fun x y z => by rw [hf]; rfl) (fun x y z => by rw [hf]; rfl)
end
end Go.Proofs.Ytnjpoidpfcfbeaa
