/- Who waits to be taken: what looks for one, drop, Many in letters. -/
import Derived.Test.YtnjpoidpfcfbeaaLs1
namespace Go.Proofs.Ytnjpoidpfcfbeaa
open Go.RowKit Sy
set_option linter.unusedVariables false
set_option linter.unusedSimpArgs false

/-- An end as a row. -/
def enY (a p : Tm) : Tm := .tb (.cons (.int .u32)) a (.tb (.cons (.int .i64)) p trow (.il 0)) (.il 0)
def eA (y : Dn) : Int := gI .u32 (y.c.headD []) 0
def eP (y : Dn) : Int := gI .i64 (y.c.headD []) 1
/-- The first that is made, and what is left without it. -/
def tkIx (l : List (List Value)) : Int := ixOf (fun r => !gB r 2) l
def tkRow (l : List (List Value)) : List Value := l.getD (tkIx l).toNat []
def tkD (l : List (List Value)) (f : Int) : Dn := if tkIx l < 0 then (if f = 4 then dI 14 else dI 0) else if f = 0 then dI (gI .u32 (tkRow l) 0) else if f = 1 then dI (gI .i64 (tkRow l) 1) else if f = 3 then dI (gI .i64 (tkRow l) 3) else dI 0
def tkL (l : List (List Value)) : List (List Value) := if tkIx l < 0 then l else dropW (gI .u32 (tkRow l) 0) (gI .i64 (tkRow l) 1) l
def lsF : Nat → Dn → Dn → Dn → Dn := fun n x y z =>
  if n = 45 then dI (ixOf (fromD (eA y) (eP y)) x.c)
  else if n = 46 then dI (ixOf (fromW (eA y) (eP y)) x.c)
  else if n = 47 then fdD x.c (eA y) (eP y) z.i
  else if n = 48 then dC (dropW (eA y) (eP y) x.c)
  else if n = 49 then dI (halfN x.c)
  else if n = 50 then tkD x.c z.i
  else if n = 51 then dC (tkL x.c)
  else if n = 52 then dC (x.c.eraseIdx y.i.toNat)
  else dI 0
def enNeed (c : Cx) (a p : Tm) : List Tm := need c (.le (.il 0) a) ++ (need c (.le a (.il 4294967295)) ++ (need c (.le (.il (-9223372036854775808)) p) ++ need c (.le p (.il 9223372036854775807))))
theorem enNeed_ok {ρ : Env} {c : Cx} (hc : c.ok ρ) {a p : Tm} (h : Sy.Met ρ (enNeed c a p)) : EnOk (den ρ a).i (den ρ p).i :=
  ⟨le_of (need_ok hc h.l), le_of (need_ok hc h.r.l), le_of (need_ok hc h.r.r.l), le_of (need_ok hc h.r.r.r)⟩
theorem eA_ok {ρ : Env} {a p : Tm} (h : EnOk (den ρ a).i (den ρ p).i) : eA (den ρ (enY a p)) = (den ρ a).i := by
  show IntKind.u32.wrap (den ρ a).i = _
  rw [wrap_in (k := .u32) h.a0 h.a1]
theorem eP_ok {ρ : Env} {a p : Tm} (h : EnOk (den ρ a).i (den ρ p).i) : eP (den ρ (enY a p)) = (den ρ p).i := by
  show IntKind.i64.wrap (den ρ p).i = _
  rw [wrap_in (k := .i64) h.p0 h.p1]
/-- A table handed in whole, by its letter. -/
def tabC (c : Cx) (hp : List Bk) (ty : TypeId) (lv : List Kd) : C → Option (List Tm × Nat × Tm)
  | .slt l m off len an => match find l hp with
    | some b => match b.str, b.x with
      | none, .tab lv' t => if Nat.beq b.ty ty && (sameLv lv lv' && (Nat.beq m lv.length && (same off (.il 0) && same an (.il 0)))) then some (need c (.le len (mkTL c t)) ++ need c (.le (mkTL c t) len), l, t) else none
      | _, _ => none
    | none => none
  | _ => none
theorem tabC_ok {ρ : Env} {β : Bn} {w : World} {hp : List Bk} (hb : ∀ b ∈ hp, BkOk ρ β w b) {c : Cx} (hc : c.ok ρ) {ty : TypeId} {lv : List Kd} {x : C} {m : List Tm} {l : Nat} {t : Tm} (h : tabC c hp ty lv x = some (m, l, t)) (hm : Sy.Met ρ m) :
    (∃ d ∈ hp, d.l = l ∧ d.nilable = true) ∧ C.den ρ β x = sltV (β l) (β (l + 1)) (den ρ t).c.length ∧ RowT w (β l) (β (l + 1)) ty lv (den ρ t).c := by
  unfold tabC at h
  split at h
  · rename_i l0 mm off len an
    split at h
    · rename_i b hf
      split at h
      · rename_i lv' t' hs hx
        split at h
        · rename_i q
          simp only [Bool.and_eq_true] at q
          injection h with h
          injection h with h1 h2
          injection h2 with h2 h3
          subst h1 h2 h3
          have q1 := Nat.eq_of_beq_eq_true q.1
          have q2 := sameLv_eq q.2.1
          have q3 := Nat.eq_of_beq_eq_true q.2.2.1
          subst q2 q3
          have hmem := find_mem hf
          have hB := hb b hmem.1
          unfold BkOk at hB
          rw [hs, hx] at hB
          have hB : RowT w (β b.l) (β (b.l + 1)) b.ty lv (den ρ t').c := hB
          rw [hmem.2, q1] at hB
          have l1 := le_of (need_ok hc hm.l)
          have l2 := le_of (need_ok hc hm.r)
          rw [mkTL_ok hc] at l1 l2
          refine ⟨⟨b, hmem.1, hmem.2, by unfold Bk.nilable; rw [hs, hx]; rfl⟩, ?_, hB⟩
          show C.den ρ β (.slt l0 lv.length off len an) = _
          rw [slt_den, same_eq q.2.2.2.1, same_eq q.2.2.2.2]
          show sltZ _ _ _ ((0 : Int)).toNat _ ((0 : Int)).toNat = _
          rw [show ((0 : Int)).toNat = 0 from rfl, sltZ_zero]
          congr 1
          omega
        · cases h
      · cases h
    · cases h
  · cases h
/-- The reference's backlog. -/
def ownBl (s : Sy.St) (l : Nat) : Option (List Tm × Nat × Tm × Tm) :=
  match Sy.find l s.hp with
  | some b => match b.str, b.x, b.cs with
    | none, .no, [.int .i64 m, x] => if Nat.beq b.ty 121 then match tabC s.cx s.hp 125 wtLv x with
      | some (ms, lt, t) => if Nat.beq l lt then none else some (ms ++ need s.cx (.le (mkTL s.cx t) (.il 4000)), lt, t, m)
      | none => none
      else none
    | _, _, _ => none
  | none => none
structure OwnBl (ρ : Env) (β : Bn) (w : World) (s : Sy.St) (l lt : Nat) (t m : Tm) : Prop where
  blk : Blk w (β l) 121 [.int .i64 (den ρ m).i, sltV (β lt) (β (lt + 1)) (den ρ t).c.length]
  row : RowT w (β lt) (β (lt + 1)) 125 wtLv (den ρ t).c
  len : (den ρ t).c.length ≤ 4000
  ne : β (lt + 1) ≠ 0 → β l ≠ β lt
  tab : ∃ d ∈ s.hp, d.l = lt ∧ d.nilable = true
theorem ownBl_ok {ρ : Env} {β : Bn} {w : World} {s : Sy.St} {l lt : Nat} {t m : Tm} {ms : List Tm} (h : ownBl s l = some (ms, lt, t, m)) (hc : s.cx.ok ρ) (hm : Sy.Met ρ ms) (hb : ∀ b ∈ s.hp, BkOk ρ β w b) (hne : ∀ x ∈ s.hp, ∀ y ∈ s.hp, x.l ≠ y.l → x.real β → y.real β → β x.l ≠ β y.l) : OwnBl ρ β w s l lt t m := by
  unfold ownBl at h
  split at h
  · rename_i b hf
    split at h
    · rename_i m0 x hs hx hcs
      split at h
      · rename_i qT
        have qT := Nat.eq_of_beq_eq_true qT
        split at h
        · rename_i ms1 lt1 t1 h1
          split at h
          · cases h
          rename_i ql
          have ql : l ≠ lt1 := fun e => ql (by rw [e]; exact Nat.beq_refl _)
          injection h with h
          injection h with e1 e2
          injection e2 with e2 e3
          injection e3 with e3 e4
          subst e1 e2 e3 e4
          obtain ⟨⟨d, hd, dl, dn⟩, a1, a2⟩ := tabC_ok (β := β) hb hc h1 hm.l
          have hlen := le_of (need_ok hc hm.r)
          rw [mkTL_ok hc] at hlen
          change _ ≤ (4000 : Int) at hlen
          have hmem := find_mem hf
          have hB := hb b hmem.1
          unfold BkOk at hB
          rw [hs, hx] at hB
          have hB : Blk w (β b.l) b.ty (denL ρ β b.cs) := hB
          rw [hmem.2, qT, hcs] at hB
          have hB : Blk w (β l) 121 [.int .i64 (den ρ m0).i, C.den ρ β x] := hB
          rw [a1] at hB
          refine ⟨hB, a2, by omega, fun hc0 => ?_, ⟨d, hd, dl, dn⟩⟩
          have hbn : b.nilable = false := by unfold Bk.nilable; rw [hs, hx]; rfl
          have := hne b hmem.1 d hd (fun e => ?_) (.inl hbn) (.inr (by rw [dl]; exact hc0))
          · rw [hmem.2, dl] at this
            exact this
          · exact ql (by rw [← hmem.2, e, dl])
        · cases h
      · cases h
    · cases h
  · cases h
/-! The Specs. -/
theorem chg_none {ρ : Env} {β : Bn} {w w' : World} {s : Sy.St} (h : Below w.heap.size w w') : Chg ρ β β w w' s [] [] [] :=
  ⟨Only.of_below h _, fun _ _ => rfl, fun x hx => (by cases hx), fun b hb => (by cases hb), fun b hb => (by cases hb), fun b hb => (by cases hb)⟩
def blN (l nx : Nat) (m t : Tm) : Bk := ⟨l, 121, [.int .i64 m, .slt nx 4 (.il 0) (tlen t) (.il 0)], true, none, .no⟩
def wtN (nx : Nat) (t : Tm) : Bk := ⟨nx, 125, [], true, none, .tab wtLv t⟩
/-- The reference's backlog told anew: its table goes, another one comes. -/
theorem chg_bl {ρ : Env} {β : Bn} {w w' : World} {s : Sy.St} {l lt : Nat} {t m nt : Tm} (O : OwnBl ρ β w s l lt t m) (hl : l < s.nx) (h : BlNew w (β l) (den ρ m).i (den ρ nt).c w') : ∃ β', Chg ρ β β' w w' s [lt] [blN l s.nx m nt] [wtN s.nx nt] ∧ ∀ v, v < s.nx → β' v = β v := by
  obtain ⟨g', c', h1, h2, h3, h4⟩ := h
  have hold : ∀ v, v < s.nx → upd (upd β s.nx g') (s.nx + 1) c' v = β v := fun v hv => by rw [upd_old (by omega), upd_old (by omega)]
  have e0 : upd (upd β s.nx g') (s.nx + 1) c' s.nx = g' := by rw [upd_old (by omega), upd_new]
  have e1 : upd (upd β s.nx g') (s.nx + 1) c' (s.nx + 1) = c' := upd_new _ _ _
  refine ⟨upd (upd β s.nx g') (s.nx + 1) c', ⟨h4.mono fun k _ hk => .inl ⟨_, List.mem_cons_self .., hk⟩, hold, fun b hb => ?_, fun b hb => ?_, fun b hb hr => ?_, fun x hx y hy hxy => ?_⟩, hold⟩
  · rw [List.mem_singleton.1 hb]
    show Blk w' (upd (upd β s.nx g') (s.nx + 1) c' l) _ [.int .i64 (den ρ m).i, sltZ (upd (upd β s.nx g') (s.nx + 1) c' s.nx) (upd (upd β s.nx g') (s.nx + 1) c' (s.nx + 1)) 4 0 (den ρ nt).c.length 0]
    rw [hold l hl, e0, e1, sltZ_zero]
    exact h1
  · rw [List.mem_singleton.1 hb]
    show RowT w' (upd (upd β s.nx g') (s.nx + 1) c' s.nx) (upd (upd β s.nx g') (s.nx + 1) c' (s.nx + 1)) _ wtLv (den ρ nt).c
    rw [e0, e1]
    exact h2
  · rw [List.mem_singleton.1 hb] at hr ⊢
    refine .inr ?_
    show _ ≤ upd (upd β s.nx g') (s.nx + 1) c' s.nx
    rw [e0]
    rcases h3 with h3 | h3
    · have hr : upd (upd β s.nx g') (s.nx + 1) c' (s.nx + 1) ≠ 0 := hr.resolve_left (by simp [wtN, Bk.nilable, Xt.isTab])
      exact absurd (e1.trans h3) hr
    · exact h3
  · rw [List.mem_singleton.1 hx, List.mem_singleton.1 hy] at hxy
    exact absurd rfl hxy
def ixSel (s : Sy.St) : List SV → Option Did
  | [.one (.c x), .one (.c (.fn g [lb]))] => match tabC s.cx s.hp 129 dnLv x, Sy.find lb s.hp with
    | some (m1, lt, t), some b => match b.str, b.x, b.cs with
      | none, .no, [.int .u32 a, .int .i64 p] => if Nat.beq g 97 && (Nat.beq b.ty 33 && !(Nat.beq lb lt)) then some ⟨m1 ++ (enNeed s.cx a p ++ need s.cx (.le (mkTL s.cx t) (.il 4000))), [], [], [], .one (.c (.int .i64 (.ap 45 t (enY a p) (.il 0)))), [⟨.ap 45 t (enY a p) (.il 0), -1, 4000⟩]⟩ else none
      | _, _, _ => none
    | _, _ => none
  | _ => none
def fdSel (s : Sy.St) : List SV → Option Did
  | [.one (.c (.ptr l 0)), .one (.agg [.int .u32 a, .int .i64 p])] => match ownBl s l with
    | some (ms, lt, t, m) => some ⟨ms ++ enNeed s.cx a p, [], [], [], .tup [.agg [.int .u32 (.ap 47 t (enY a p) (.il 0)), .int .i64 (.ap 47 t (enY a p) (.il 1)), .bool (.ap 47 t (enY a p) (.il 2)), .int .i64 (.ap 47 t (enY a p) (.il 3))], .c (.bool (.le (.il 0) (.ap 46 t (enY a p) (.il 0))))], []⟩
    | none => none
  | _ => none
def drSel (s : Sy.St) : List SV → Option Did
  | [.one (.c (.ptr l 0)), .one (.agg [.int .u32 a, .int .i64 p])] => match ownBl s l with
    | some (ms, lt, t, m) => if Nat.blt l s.nx then some ⟨ms ++ (enNeed s.cx a p ++ need s.cx (.le (mkTL s.cx t) (.il 3000))), [lt], [blN l s.nx m (.ap 48 t (enY a p) (.il 0))], [wtN s.nx (.ap 48 t (enY a p) (.il 0))], .tup [], [⟨tlen (.ap 48 t (enY a p) (.il 0)), 0, 3000⟩]⟩ else none
    | none => none
  | _ => none
def mnSel (s : Sy.St) : List SV → Option Did
  | [.one (.c (.ptr l 0))] => match ownBl s l with
    | some (ms, lt, t, m) => some ⟨ms, [], [], [], .tup [.c (.int .i64 (.ap 49 t (.il 0) (.il 0))), .c (.int .i64 (.sub (mkTL s.cx t) (.ap 49 t (.il 0) (.il 0))))], [⟨.ap 49 t (.il 0) (.il 0), 0, 4000⟩]⟩
    | none => none
  | _ => none
def ixSp : Sy.Spec := chgSp 96 ixSel
def fdSp : Sy.Spec := chgSp 69 fdSel
def drSp : Sy.Spec := chgSp 70 drSel
def mnSp : Sy.Spec := chgSp 34 mnSel
theorem ixOf_rng (p : List Value → Bool) : ∀ l : List (List Value), -1 ≤ ixOf p l ∧ ixOf p l < (l.length : Int)
  | [] => ⟨Int.le_refl _, show (-1 : Int) < 0 by decide⟩
  | a :: l => by
    have ih := ixOf_rng p l
    simp only [ixOf, List.length_cons]
    split
    · omega
    · split <;> omega
section
variable {ρ : Env}
theorem ixSp_ok (hf : ρ.f = lsF) : ixSp.Ok Try.prog ρ := by
  refine chgSp_ok fun {s xs d} hs hc hm {β w} hb hne => ?_
  unfold ixSel at hs
  split at hs
  · rename_i x g lb
    split at hs
    · rename_i m1 lt t b h1 h2
      split at hs
      · rename_i a p hst hx hcs
        split at hs
        · rename_i q
          simp only [Bool.and_eq_true, Bool.not_eq_true'] at q
          injection hs with hs
          subst hs
          obtain ⟨⟨d, hd, dl, dn⟩, a1, a2⟩ := tabC_ok (β := β) hb hc h1 hm.l
          have he := enNeed_ok hc hm.r.l
          have hlen := le_of (need_ok hc hm.r.r)
          rw [mkTL_ok hc] at hlen
          change _ ≤ (4000 : Int) at hlen
          have hmem := find_mem h2
          have hB := hb b hmem.1
          unfold BkOk at hB
          rw [hst, hx] at hB
          have hB : Blk w (β b.l) b.ty (denL ρ β b.cs) := hB
          rw [hmem.2, Nat.eq_of_beq_eq_true q.2.1, hcs] at hB
          have hB : Blk w (β lb) 33 [.int .u32 (den ρ a).i, .int .i64 (den ρ p).i] := hB
          have e : (den ρ (.ap 45 t (enY a p) (.il 0))).i = ixOf (fromD (den ρ a).i (den ρ p).i) (den ρ t).c := by
            show (ρ.f 45 _ _ _).i = _
            rw [hf]
            show ixOf (fromD (eA (den ρ (enY a p))) (eP (den ρ (enY a p)))) _ = _
            rw [eA_ok he, eP_ok he]
          refine ⟨fun y hy => ?_, ?_⟩
          · rw [List.mem_singleton.1 hy]
            show (-1 : Int) ≤ (den ρ (.ap 45 t (enY a p) (.il 0))).i ∧ (den ρ (.ap 45 t (enY a p) (.il 0))).i ≤ 4000
            rw [e]
            have := ixOf_rng (fromD (den ρ a).i (den ρ p).i) (den ρ t).c
            omega
          · have hcall := ix_calls a2 hB he (by omega) fun hc0 => by
              have := hne b hmem.1 d hd (fun e => beq_ne q.2.2 (by rw [← hmem.2, e, dl])) (.inl (by unfold Bk.nilable; rw [hst, hx]; rfl)) (.inr (by rw [dl]; exact hc0))
              rw [hmem.2, dl] at this
              exact this
            show Calls Try.prog 96 (#[C.den ρ β x, .func (.func g) #[] #[.pointer (some ⟨β lb, 0, none⟩)]]) w _
            rw [a1, Nat.eq_of_beq_eq_true q.1]
            refine hcall.mono ?_
            rintro e' w' ⟨v, rfl, rfl, hbl⟩
            refine ⟨β, ?_, chg_none hbl⟩
            show _ = Ending.returned (.int .i64 (den ρ (.ap 45 t (enY a p) (.il 0))).i)
            rw [e]
        · cases hs
      · cases hs
    · cases hs
  · cases hs
theorem fdSp_ok (hf : ρ.f = lsF) : fdSp.Ok Try.prog ρ := by
  refine chgSp_ok fun {s xs d} hs hc hm {β w} hb hne => ?_
  unfold fdSel at hs
  split at hs
  · rename_i l a p
    split at hs
    · rename_i ms lt t m ho
      injection hs with hs
      subst hs
      have O := ownBl_ok (β := β) ho hc hm.l hb hne
      have he := enNeed_ok hc hm.r
      refine ⟨fun y hy => (by cases hy), (fn_calls O.blk O.row he O.len O.ne).mono ?_⟩
      rintro e' w' ⟨v, rfl, rfl, hbl⟩
      refine ⟨β, ?_, chg_none hbl⟩
      have e (f : Int) : den ρ (.ap 47 t (enY a p) (.il f)) = fdD (den ρ t).c (den ρ a).i (den ρ p).i f := by
        show ρ.f 47 _ _ _ = _
        rw [hf]
        show fdD (den ρ t).c (eA (den ρ (enY a p))) (eP (den ρ (enY a p))) f = _
        rw [eA_ok he, eP_ok he]
      have e6 : (den ρ (.ap 46 t (enY a p) (.il 0))).i = ixOf (fromW (den ρ a).i (den ρ p).i) (den ρ t).c := by
        show (ρ.f 46 _ _ _).i = _
        rw [hf]
        show ixOf (fromW (eA (den ρ (enY a p))) (eP (den ρ (enY a p)))) _ = _
        rw [eA_ok he, eP_ok he]
      show _ = Ending.returned (.tuple #[.agg #[.int .u32 (den ρ (.ap 47 t (enY a p) (.il 0))).i, .int .i64 (den ρ (.ap 47 t (enY a p) (.il 1))).i, .bool (den ρ (.ap 47 t (enY a p) (.il 2))).b, .int .i64 (den ρ (.ap 47 t (enY a p) (.il 3))).i], .bool (decide ((0 : Int) ≤ (den ρ (.ap 46 t (enY a p) (.il 0))).i))])
      rw [e, e, e, e, e6]
      rfl
    · cases hs
  · cases hs
theorem drSp_ok (hf : ρ.f = lsF) : drSp.Ok Try.prog ρ := by
  refine chgSp_ok fun {s xs d} hs hc hm {β w} hb hne => ?_
  unfold drSel at hs
  split at hs
  · rename_i l a p
    split at hs
    · rename_i ms lt t m ho
      split at hs
      · rename_i ql
        injection hs with hs
        subst hs
        have O := ownBl_ok (β := β) ho hc hm.l hb hne
        have he := enNeed_ok hc hm.r.l
        have hlen := le_of (need_ok hc hm.r.r)
        rw [mkTL_ok hc] at hlen
        change _ ≤ (3000 : Int) at hlen
        have e : (den ρ (.ap 48 t (enY a p) (.il 0))).c = dropW (den ρ a).i (den ρ p).i (den ρ t).c := by
          show (ρ.f 48 _ _ _).c = _
          rw [hf]
          show dropW (eA (den ρ (enY a p))) (eP (den ρ (enY a p))) _ = _
          rw [eA_ok he, eP_ok he]
        refine ⟨fun y hy => ?_, (dr_calls O.blk O.row he O.len O.ne).mono ?_⟩
        · rw [List.mem_singleton.1 hy]
          show (0 : Int) ≤ ((den ρ (.ap 48 t (enY a p) (.il 0))).c.length : Int) ∧ ((den ρ (.ap 48 t (enY a p) (.il 0))).c.length : Int) ≤ 3000
          rw [e]
          have h1 : (dropW (den ρ a).i (den ρ p).i (den ρ t).c).length ≤ (den ρ t).c.length := List.length_filter_le ..
          have h2 := O.len
          omega
        · rintro e' w' ⟨v, rfl, rfl, hbl⟩
          rw [← e] at hbl
          obtain ⟨β', hC, _⟩ := chg_bl O (blt_lt ql) hbl
          exact ⟨β', rfl, hC⟩
      · cases hs
    · cases hs
  · cases hs
theorem mnSp_ok (hf : ρ.f = lsF) : mnSp.Ok Try.prog ρ := by
  refine chgSp_ok fun {s xs d} hs hc hm {β w} hb hne => ?_
  unfold mnSel at hs
  split at hs
  · rename_i l
    split at hs
    · rename_i ms lt t m ho
      injection hs with hs
      subst hs
      have O := ownBl_ok (β := β) ho hc hm hb hne
      have e : (den ρ (.ap 49 t (.il 0) (.il 0))).i = (halfN (den ρ t).c : Int) := by
        show (ρ.f 49 _ _ _).i = _
        rw [hf]
        rfl
      refine ⟨fun y hy => ?_, (mn_calls O.blk O.row O.len O.ne).mono ?_⟩
      · rw [List.mem_singleton.1 hy]
        show (0 : Int) ≤ (den ρ (.ap 49 t (.il 0) (.il 0))).i ∧ (den ρ (.ap 49 t (.il 0) (.il 0))).i ≤ 4000
        rw [e]
        have h1 := halfN_le (den ρ t).c
        have h2 := O.len
        omega
      · rintro e' w' ⟨v, rfl, rfl, hbl⟩
        refine ⟨β, ?_, chg_none hbl⟩
        show _ = Ending.returned (.tuple #[.int .i64 (den ρ (.ap 49 t (.il 0) (.il 0))).i, .int .i64 ((den ρ (mkTL s.cx t)).i - (den ρ (.ap 49 t (.il 0) (.il 0))).i)])
        rw [e, mkTL_ok hc]
    · cases hs
  · cases hs
end
end Go.Proofs.Ytnjpoidpfcfbeaa
