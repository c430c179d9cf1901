/- What comes in: all calls in letters. -/
import Derived.Test.YtnjpoidpfcfbeaaIqC
namespace Go.Proofs.Ytnjpoidpfcfbeaa
open Go.RowKit Sy
set_option linter.unusedVariables false
set_option linter.unusedSimpArgs false

/-! New. -/
def R0 : List (List Value) := List.replicate 2048 [.int .u8 0]
def H0 : List (List Value) := List.replicate 2048 [.bool false]
def nwC : List C := List.replicate 2048 (.int .u8 (.il 0)) ++ (List.replicate 2048 (.bool (.bl false)) ++ [.int .i64 (.il 1), .int .i64 (.il 1), .int .i64 (.il (-1)), .bool (.bl false)])
set_option maxRecDepth 100000 in
theorem nw_run : smR Try.prog Try.f8 4 (run Try.prog [] 10 400 4 (.code (bodyOf Try.f8)) (enterS Try.f8 [] ⟨[], [], ⟨[], []⟩, 4⟩)) = some [.ret (.one (.c (.ptr 4 0))) [⟨4, 105, nwC, true, none, .no⟩] []] := by kernel_rfl
theorem flat_rep (v : Value) : ∀ n, (List.replicate n [v]).flatten = List.replicate n v
  | 0 => rfl
  | n + 1 => by rw [List.replicate_succ, List.replicate_succ, List.flatten_cons, flat_rep v n]; rfl
theorem nwC_den (ρ : Env) (β : Bn) : denL ρ β nwC = quCells R0 H0 1 1 (-1) false := by
  unfold nwC quCells R0 H0
  rw [flat_rep, flat_rep, denL_app, denL_app]
  unfold denL
  rw [List.map_replicate, List.map_replicate]
  rfl
theorem qok0 : QuOk R0 H0 := ⟨List.length_replicate .., fun r hr => by rw [(List.mem_replicate.1 hr).2]; exact ⟨⟨0, rfl, by decide⟩, trivial⟩, List.length_replicate .., fun r hr => by rw [(List.mem_replicate.1 hr).2]; exact ⟨⟨false, rfl⟩, trivial⟩⟩
theorem nw_calls (w : World) : Calls Try.prog 8 #[] w (RetP fun v w' => ∃ g, v = .pointer (some ⟨g, 0, none⟩) ∧ w.heap.size ≤ g ∧ Blk w' g 105 (quCells R0 H0 1 1 (-1) false) ∧ Below w.heap.size w w') := by
  have hM : Md (mkEnv0 [] [] [] []) (fun _ => False) w (fun _ => 0) 4 ⟨[], [], ⟨[], []⟩, 4⟩ (fun _ => 0) ⟨#[], []⟩ w := Sy.Md.start ⟨fun _ h => (by cases h), fun _ h => (by cases h)⟩
  refine (calls_sm (B := ⟨mkEnv0 [] [] [] [], fun _ => False, w, fun _ => 0, 4⟩) (sp := []) (fun i => rfl) (fun q hq => by cases hq) 10 400 Try.func8 rfl [] ⟨[], [], ⟨[], []⟩, 4⟩ _ 4 rfl nw_run hM (R := fun v w' => ∃ g, v = .pointer (some ⟨g, 0, none⟩) ∧ w.heap.size ≤ g ∧ Blk w' g 105 (quCells R0 H0 1 1 (-1) false) ∧ Below w.heap.size w w') ⟨?_, trivial⟩ rfl)
  intro _ β w2 hH
  refine ⟨β 4, rfl, ?_, ?_, Sy.Only.below_all hH.only⟩
  · rcases hH.may _ (List.mem_cons_self ..) rfl (.inl rfl) with h | h
    · exact h.elim
    · exact h
  · have := hH.hp _ (List.mem_cons_self ..)
    have : Blk w2 (β 4) 105 (denL (mkEnv0 [] [] [] []) β nwC) := this
    rw [nwC_den] at this
    exact this
/-! Next, Over. -/
def rdHp : List Bk := [inO 0 2 true (.iv 0) (.iv 1), inT 2 true (.cv 0)]
set_option maxRecDepth 100000 in
theorem nx_run : smR Try.prog Try.f16 4 (run Try.prog [bySp] 10 400 4 (.code (bodyOf Try.f16)) (enterS Try.f16 [.one (.c (.ptr 0 0))] rdSt)) = some
    [.ret (.one (.c (.int .i64 (.add (gapT (.cv 0)) (.il 1))))) rdHp [.eq (gapT (.cv 0)) (.iv 1), .lt (.il 0) (.iv 1)],
    .ret (.one (.c (.int .i64 (gapT (.cv 0))))) rdHp [.not (.eq (gapT (.cv 0)) (.iv 1)), .lt (.il 0) (.iv 1)],
    .ret (.one (.c (.int .i64 (gapT (.cv 0))))) rdHp [.not (.lt (.il 0) (.iv 1))]] := by kernel_rfl
set_option maxRecDepth 100000 in
theorem ov_run : smR Try.prog Try.f22 4 (run Try.prog [bySp] 10 400 4 (.code (bodyOf Try.f22)) (enterS Try.f22 [.one (.c (.ptr 0 0))] rdSt)) = some
    [.ret (.one (.c (.bool (.eq (gapT (.cv 0)) (.iv 1))))) rdHp [.lt (.il 0) (.iv 1)],
    .ret (.one (.c (.bool (.bl false)))) rdHp [.not (.lt (.il 0) (.iv 1))]] := by kernel_rfl
structure RxIn (L : List (List Value)) (read fin : Int) : Prop where
  g : GoodM L
  k : keyMax L ≤ 1153202979583557632
  r0 : 0 ≤ read
  r1 : read ≤ 1153202979583557632
  f0 : 0 ≤ fin
  f1 : fin ≤ 1153202979583557632
section
variable {L : List (List Value)} {read fin : Int} {w : World} {g gm : Nat}
def rxEnv (L : List (List Value)) (read fin : Int) : Env := ⟨fun n => if n = 0 then read else if n = 1 then fin else 0, fun _ => false, fun _ => none8, inF, fun _ => .bool false, fun _ => .bool false, fun _ => L⟩
theorem rx_md (h : RxIn L read fin) (hO : Blk w g 108 (inCells gm read fin)) (hT : MapT w gm [.int .i64] false (.int .u8) L) (hne : g ≠ gm) : Md (rxEnv L read fin) (S2 g gm) w (bn2 g gm) 4 rdSt (bn2 g gm) ⟨#[], []⟩ w := by
  have hk0 := keyMax_nonneg L
  obtain ⟨_, hk, r0, r1, f0, f1⟩ := h
  have hcx : rdSt.cx.ok (rxEnv L read fin) := by
    refine cxP ⟨?_, ?_, ?_, ?_, trivial⟩ trivial
    · show 0 ≤ read ∧ read ≤ 2305843009213693952; omega
    · show 0 ≤ fin ∧ fin ≤ 2305843009213693952; omega
    · show 0 ≤ keyMax L ∧ keyMax L ≤ 2305843009213693952; omega
    · show -9223372036854775808 ≤ (0 : Int) ∧ (0 : Int) ≤ 9223372036854775807; omega
  exact Sy.Md.init ⟨hO, hT, trivial⟩ ⟨⟨fun _ _ => hne, trivial⟩, trivial, trivial⟩ ⟨fun _ _ => .inl rfl, fun _ _ => .inr rfl, trivial⟩ hcx rfl
def RxPost (w : World) (g gm : Nat) (L : List (List Value)) (read fin : Int) (x v : Value) (w' : World) : Prop := v = x ∧ Blk w' g 108 (inCells gm read fin) ∧ MapT w' gm [.int .i64] false (.int .u8) L ∧ Only (fun x => x = g ∨ x = gm) w w'
theorem rx_post {x : Value} {v : SV} {β : Bn} {w2 : World} (hH : Hp (rxEnv L read fin) (S2 g gm) w (bn2 g gm) 4 rdHp β w2) (hv : v.den (rxEnv L read fin) β = x) : RxPost w g gm L read fin x (v.den (rxEnv L read fin) β) w2 := by
  refine ⟨hv, ?_, ?_, hH.only⟩
  · have := hH.hp _ (List.mem_cons_self ..)
    have : Blk w2 (β 0) 108 (inCells (β 2) read fin) := this
    rw [hH.old 0 (show 0 < 4 by decide), hH.old 2 (show 2 < 4 by decide)] at this
    exact this
  · have := hH.hp _ (List.mem_cons_of_mem _ (List.mem_cons_self ..))
    have : MapT w2 (β 2) [.int .i64] false (.int .u8) L := this
    rw [hH.old 2 (show 2 < 4 by decide)] at this
    exact this
theorem rx_gap : (den (rxEnv L read fin) (gapT (.cv 0))).i = gap L read := rfl
theorem rnext_calls (h : RxIn L read fin) (hO : Blk w g 108 (inCells gm read fin)) (hT : MapT w gm [.int .i64] false (.int .u8) L) (hne : g ≠ gm) :
    Calls Try.prog 16 #[.pointer (some ⟨g, 0, none⟩)] w (RetP (RxPost w g gm L read fin (.int .i64 (rNext L read fin)))) := by
  refine calls_sm (B := ⟨rxEnv L read fin, S2 g gm, w, bn2 g gm, 4⟩) (sp := [bySp]) (fun i => rfl) (by_ok rfl) 10 400 Try.func16 rfl [.one (.c (.ptr 0 0))] rdSt _ 4 rfl nx_run (rx_md h hO hT hne) ?_ rfl
  refine ⟨?_, ?_, ?_, trivial⟩
  all_goals
    intro hpc β w2 hH
    replace hpc : pcs (rxEnv L read fin) _ := hpc
    simp only [pcs, t_lt, t_eq, t_not, i_iv, i_il, rx_gap, and_true] at hpc
    refine rx_post hH ?_
    unfold rNext rOver
  · rw [decide_eq_true (p := 0 < fin ∧ gap L read = fin) ⟨hpc.2, hpc.1⟩]
    rfl
  · rw [decide_eq_false (p := 0 < fin ∧ gap L read = fin) fun q => hpc.1 q.2, if_neg (by decide), Int.add_zero]
    rfl
  · rw [decide_eq_false (p := 0 < fin ∧ gap L read = fin) fun q => hpc q.1, if_neg (by decide), Int.add_zero]
    rfl
theorem rover_calls (h : RxIn L read fin) (hO : Blk w g 108 (inCells gm read fin)) (hT : MapT w gm [.int .i64] false (.int .u8) L) (hne : g ≠ gm) :
    Calls Try.prog 22 #[.pointer (some ⟨g, 0, none⟩)] w (RetP (RxPost w g gm L read fin (.bool (rOver L read fin)))) := by
  refine calls_sm (B := ⟨rxEnv L read fin, S2 g gm, w, bn2 g gm, 4⟩) (sp := [bySp]) (fun i => rfl) (by_ok rfl) 10 400 Try.func22 rfl [.one (.c (.ptr 0 0))] rdSt _ 4 rfl ov_run (rx_md h hO hT hne) ?_ rfl
  refine ⟨?_, ?_, trivial⟩
  all_goals
    intro hpc β w2 hH
    replace hpc : pcs (rxEnv L read fin) _ := hpc
    simp only [pcs, t_lt, t_eq, t_not, i_iv, i_il, rx_gap, and_true] at hpc
    refine rx_post hH ?_
    unfold rOver
  · show Value.bool (decide (gap L read = fin)) = _
    congr 1
    exact decide_eq_decide.2 ⟨fun q => ⟨hpc, q⟩, fun q => q.2⟩
  · rw [decide_eq_false (p := 0 < fin ∧ gap L read = fin) fun q => hpc q.1]
    rfl
end
/-! In letters. -/
def zInt (t : Tm) (r : Tm) : Tm := .tb (.cons (.int .i64)) t r (.il 0)
def zBool (t : Tm) (r : Tm) : Tm := .tb (.cons .bool) t r (.il 0)
def zStr (t : Tm) (r : Tm) : Tm := .tb (.cons .str) t r (.il 0)
def qsOf (x y z : Dn) : QS := ⟨x.c, y.c, intAt (z.c.headD []) 0, intAt (z.c.headD []) 1, intAt (z.c.headD []) 2, boolAt (z.c.headD []) 3⟩
def lawF : Nat → Dn → Dn → Dn → Dn := fun n x y z =>
  if n = 33 then dI (rNext x.c y.i z.i) else if n = 34 then dB (rOver x.c y.i z.i)
  else if n = 40 then dC R0 else if n = 41 then dC H0
  else if n = 42 then dC (qpPut (qsOf x y z) (intAt (z.c.headD []) 4) (strAt (z.c.headD []) 5) (boolAt (z.c.headD []) 6)).R
  else if n = 43 then dC (qpPut (qsOf x y z) (intAt (z.c.headD []) 4) (strAt (z.c.headD []) 5) (boolAt (z.c.headD []) 6)).H
  else if n = 44 then dI (qpPut (qsOf x y z) (intAt (z.c.headD []) 4) (strAt (z.c.headD []) 5) (boolAt (z.c.headD []) 6)).next
  else if n = 45 then dI (qpPut (qsOf x y z) (intAt (z.c.headD []) 4) (strAt (z.c.headD []) 5) (boolAt (z.c.headD []) 6)).fin
  else if n = 46 then dB (qpPut (qsOf x y z) (intAt (z.c.headD []) 4) (strAt (z.c.headD []) 5) (boolAt (z.c.headD []) 6)).over
  else if n = 47 then dB (qpRet (qsOf x y z) (intAt (z.c.headD []) 4) (strAt (z.c.headD []) 5) (boolAt (z.c.headD []) 6))
  else if n = 50 then dC (rpMap x.c (intAt (y.c.headD []) 0) (intAt (y.c.headD []) 1) (intAt (y.c.headD []) 2) (strAt (y.c.headD []) 3))
  else if n = 51 then dI (rpFin x.c (intAt (y.c.headD []) 0) (intAt (y.c.headD []) 1) (intAt (y.c.headD []) 2) (strAt (y.c.headD []) 3) (boolAt (y.c.headD []) 4))
  else if n = 52 then dB (rpRet x.c (intAt (y.c.headD []) 0) (intAt (y.c.headD []) 1) (intAt (y.c.headD []) 2) (strAt (y.c.headD []) 3) (boolAt (y.c.headD []) 4))
  else if n = 53 then dS (rdS (byteQ x.c) (intAt (z.c.headD []) 0) (qdN (qsOf x y z) (intAt (z.c.headD []) 4)).toNat)
  else if n = 54 then dI (qdN (qsOf x y z) (intAt (z.c.headD []) 4))
  else if n = 55 then dS (rdS (byteM x.c) (intAt (y.c.headD []) 0) (rdN x.c (intAt (y.c.headD []) 0) (intAt (y.c.headD []) 1)).toNat)
  else if n = 56 then dI (rdN x.c (intAt (y.c.headD []) 0) (intAt (y.c.headD []) 1))
  else inF n x y z
def K60T : Tm := .il 1153202979583557632
def rxNeed (c : Cx) (t r f : Tm) : List Tm := need c (.le (.il 0) r) ++ (need c (.le r K60T) ++ (need c (.le (.il 0) f) ++ (need c (.le f K60T) ++ need c (.le (.ap 31 t (.il 0) (.il 0)) K60T))))
theorem rxNeed_ok {ρ : Env} (hf : ρ.f = lawF) {c : Cx} (hc : c.ok ρ) {t r f : Tm} (hg : GoodM (den ρ t).c) (h : Sy.Met ρ (rxNeed c t r f)) : RxIn (den ρ t).c (den ρ r).i (den ρ f).i := by
  have h1 := le_of (need_ok hc h.l)
  have h2 := le_of (need_ok hc h.r.l)
  have h3 := le_of (need_ok hc h.r.r.l)
  have h4 := le_of (need_ok hc h.r.r.r.l)
  have h5 := le_of (need_ok hc h.r.r.r.r)
  have e : (den ρ (.ap 31 t (.il 0) (.il 0))).i = keyMax (den ρ t).c := by
    show (ρ.f 31 _ _ _).i = _
    rw [hf]
    rfl
  rw [e] at h5
  exact ⟨hg, h5, h1, h2, h3, h4⟩
theorem chg_one {ρ : Env} {β : Bn} {w w' : World} {s : Sy.St} {b : Bk} (h : Only (fun x => x = β b.l) w w') (hb : BkOk ρ β w' b) : Chg ρ β β w w' s [] [b] [] :=
  ⟨h.mono fun k _ hk => .inl ⟨b, List.mem_cons_self .., hk⟩, fun _ _ => rfl, fun x hx => by rw [List.mem_singleton.1 hx]; exact hb, fun b hb => (by cases hb), fun b hb => (by cases hb), fun b hb => (by cases hb)⟩
theorem chg_two {ρ : Env} {β : Bn} {w w' : World} {s : Sy.St} {b c : Bk} (h : Only (fun x => x = β b.l ∨ x = β c.l) w w') (hb : BkOk ρ β w' b) (hc : BkOk ρ β w' c) : Chg ρ β β w w' s [] [b, c] [] :=
  ⟨h.mono fun k _ hk => .inl (hk.elim (fun hk => ⟨b, List.mem_cons_self .., hk⟩) fun hk => ⟨c, List.mem_cons_of_mem _ (List.mem_cons_self ..), hk⟩), fun _ _ => rfl, fun x hx => by
    rcases List.mem_cons.1 hx with rfl | hx
    · exact hb
    · rw [List.mem_singleton.1 hx]; exact hc, fun b hb => (by cases hb), fun b hb => (by cases hb), fun b hb => (by cases hb)⟩
/-- The reference's: told anew. -/
def inOt (l m : Nat) (r f : Tm) : Bk := inO l m true r f
def nextSel (s : Sy.St) : List SV → Option Did
  | [.one (.c (.ptr l 0))] => match ownIn s l with
    | some (m, t, r, f) => some ⟨rxNeed s.cx t r f, [], [inO l m true r f, inT m true t], [], .one (.c (.int .i64 (.ap 33 t r f))), [B61 (.ap 33 t r f)]⟩
    | none => none
  | _ => none
def overSel (s : Sy.St) : List SV → Option Did
  | [.one (.c (.ptr l 0))] => match ownIn s l with
    | some (m, t, r, f) => some ⟨rxNeed s.cx t r f, [], [inO l m true r f, inT m true t], [], .one (.c (.bool (.ap 34 t r f))), []⟩
    | none => none
  | _ => none
def nextSp : Sy.Spec := chgSp 16 nextSel
def overSp : Sy.Spec := chgSp 22 overSel
section
variable {ρ : Env}
theorem nextSp_ok (hf : ρ.f = lawF) : nextSp.Ok Try.prog ρ := by
  refine chgSp_ok fun {s xs d} hs hc hm {β w} hb hne => ?_
  unfold nextSel at hs
  split at hs
  · rename_i l
    split at hs
    · rename_i m t r f ho
      injection hs with hs
      subst hs
      have O := ownIn_ok (β := β) (w := w) ho hb hne
      have hi := rxNeed_ok hf hc O.map.ok hm
      have e : (den ρ (.ap 33 t r f)).i = rNext (den ρ t).c (den ρ r).i (den ρ f).i := by
        show (ρ.f 33 _ _ _).i = _
        rw [hf]
        rfl
      refine ⟨?_, ?_⟩
      · intro x hx
        rw [List.mem_singleton.1 hx]
        show (0 : Int) ≤ (den ρ (.ap 33 t r f)).i ∧ (den ρ (.ap 33 t r f)).i ≤ 2305843009213693952
        rw [e]
        have g1 := gap_le hi.g (den ρ r).i
        have g2 := (gap_spec hi.g (den ρ r).i).1
        have := hi.k
        have := hi.r1
        have := hi.r0
        unfold rNext
        split <;> omega
      · refine (rnext_calls hi O.blk O.map O.ne).mono ?_
        rintro e' w' ⟨v, rfl, rfl, h1, h2, h3⟩
        refine ⟨β, ?_, chg_two (b := inO l m true r f) (c := inT m true t) h3 h1 h2⟩
        show _ = Ending.returned (.int .i64 (den ρ (.ap 33 t r f)).i)
        rw [e]
    · cases hs
  · cases hs
theorem overSp_ok (hf : ρ.f = lawF) : overSp.Ok Try.prog ρ := by
  refine chgSp_ok fun {s xs d} hs hc hm {β w} hb hne => ?_
  unfold overSel at hs
  split at hs
  · rename_i l
    split at hs
    · rename_i m t r f ho
      injection hs with hs
      subst hs
      have O := ownIn_ok (β := β) (w := w) ho hb hne
      have hi := rxNeed_ok hf hc O.map.ok hm
      have e : (den ρ (.ap 34 t r f)).b = rOver (den ρ t).c (den ρ r).i (den ρ f).i := by
        show (ρ.f 34 _ _ _).b = _
        rw [hf]
        rfl
      refine ⟨fun x hx => (by cases hx), ?_⟩
      refine (rover_calls hi O.blk O.map O.ne).mono ?_
      rintro e' w' ⟨v, rfl, rfl, h1, h2, h3⟩
      refine ⟨β, ?_, chg_two (b := inO l m true r f) (c := inT m true t) h3 h1 h2⟩
      show _ = Ending.returned (.bool (den ρ (.ap 34 t r f)).b)
      rw [e]
    · cases hs
  · cases hs
end
end Go.Proofs.Ytnjpoidpfcfbeaa
