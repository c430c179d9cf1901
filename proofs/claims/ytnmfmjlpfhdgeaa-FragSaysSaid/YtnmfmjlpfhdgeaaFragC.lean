/- Fragments: the program's In, of a packet that goes into the table. -/
import Derived.Test.YtnmfmjlpfhdgeaaFragB
namespace Go.Proofs.Ytnmfmjlpfhdgeaa
open Go.RowKit Sy
set_option linter.unusedVariables false
set_option linter.unusedSimpArgs false

/-! Letters. -/
def whi (e : Ent) (k : Nat) : Int := if k = 10 then enOf e.2 else if k = 11 then laOf e.2 else if k = 13 then e.1 else intAt (fsC e.2) (k - 30)
def whb (e : Ent) (k : Nat) : Bool := if k = 12 then (fsOf e.2).isSome else boolAt (fsC e.2) (k - 30)
def inEnv (p : List Value) (bs : List Nat) (es : List Ent) (eA eB : Ent) : Env := { mkEnv0 [] [] [] [] with
  i := fun n => if n < 100 then intAt p (n - 20) else if n < 200 then whi eA (n - 100) else whi eB (n - 200)
  b := fun n => if n < 100 then boolAt p (n - 20) else if n < 200 then whb eA (n - 100) else whb eB (n - 200)
  s := fun n => if n < 100 then strAt p (n - 20) else if n < 200 then strAt (fsC eA.2) (n - 130) else strAt (fsC eB.2) (n - 230)
  c := fun n => if n = 1 then mpR bs es else if n = 101 then byT eA.2 else if n = 102 then hsT eA.2 else if n = 201 then byT eB.2 else hsT eB.2 }
structure InI (p : List Value) (bs : List Nat) (es : List Ent) (eA eB : Ent) (ρ : Env) : Prop where
  good : ρ.good
  p20 : ∀ β, denL ρ β (pkC 20) = p
  c1 : ρ.c 1 = mpR bs es
  A : WhL ρ 100 eA
  B : WhL ρ 200 eB
set_option maxRecDepth 100000 in
theorem inEnv_I {p : List Value} {bs : List Nat} {es : List Ent} {eA eB : Ent} (hk : kAll pkLv p) (hA : GL eA.2) (hB : GL eB.2) : InI p bs es eA eB (inEnv p bs es eA eB) :=
  ⟨fun i => rfl, fun β => pk_den (h := 20) hk rfl rfl rfl rfl rfl rfl rfl rfl rfl β, rfl,
   ⟨fun β => pk_den (h := 130) (fsC_ok hA) rfl rfl rfl rfl rfl rfl rfl rfl rfl β, rfl, rfl, rfl, rfl, rfl, rfl⟩,
   ⟨fun β => pk_den (h := 230) (fsC_ok hB) rfl rfl rfl rfl rfl rfl rfl rfl rfl β, rfl, rfl, rfl, rfl, rfl, rfl⟩⟩
structure PkN (ρ : Env) (p : List Value) : Prop where
  a20 : 0 ≤ ρ.i 20 ∧ ρ.i 20 ≤ 4294967295
  a21 : 0 ≤ ρ.i 21 ∧ ρ.i 21 ≤ 4294967295
  a22 : ρ.i 22 = pPro p
  a23 : ρ.i 23 = pTtl p
  a24 : ρ.i 24 = pId p
  b26 : ρ.b 26 = pMore p
  a27 : ρ.i 27 = pOff p
  s28 : ρ.s 28 = pBody p
theorem pk_n {ρ : Env} {p : List Value} (hp : kAll pkLv p) (e : ∀ β, denL ρ β (pkC 20) = p) : PkN ρ p := by
  obtain ⟨b6, i7, s8⟩ := pk_let hp e
  have e := e fun _ => 0
  change [Value.int .u32 (ρ.i 20), .int .u32 (ρ.i 21), .int .i64 (ρ.i 22), .int .i64 (ρ.i 23), .int .i64 (ρ.i 24), .bool (ρ.b 25), .bool (ρ.b 26), .int .i64 (ρ.i 27), .string (ρ.s 28)] = p at e
  rw [← e] at hp
  obtain ⟨⟨n0, x0, w0⟩, ⟨n1, x1, w1⟩, ⟨n2, x2, w2⟩, ⟨n3, x3, w3⟩, ⟨n4, x4, w4⟩, _⟩ := hp
  injection x0 with _ x0
  injection x1 with _ x1
  injection x2 with _ x2
  injection x3 with _ x3
  injection x4 with _ x4
  rw [← x0] at w0
  rw [← x1] at w1
  rw [← x2] at w2
  rw [← x3] at w3
  rw [← x4] at w4
  have g : ∀ i, (Lit.int .i64 i).wf = true → ∀ j, p.getD j (.bool false) = .int .i64 i → i = gI .i64 p j := fun i hw j hj => by
    obtain ⟨b1, b2⟩ := of_wf hw
    exact (gI_lit hj b1 b2).symm
  exact ⟨of_wf w0, of_wf w1, g _ w2 2 (by rw [← e]; rfl), g _ w3 3 (by rw [← e]; rfl), g _ w4 4 (by rw [← e]; rfl), b6, i7, s8⟩
section
variable {p : List Value} {bs : List Nat} {es : List Ent} {eA eB : Ent} {ρ : Env} {w w1 : World} {g m : Nat}
theorem InI.key (I : InI p bs es eA eB ρ) : (den ρ keyT).c = [nameOf p] := by
  have e := I.p20 fun _ => 0
  rw [← e]
  rfl
theorem InI.ix (I : InI p bs es eA eB ρ) (hl : bs.length = es.length) : (den ρ ixT).i = match ixN (nameOf p) es with | some i => (i : Int) | none => -1 := by
  show mIx 4 ((den ρ keyT).c.headD []) (ρ.c 1) = _
  rw [I.key, I.c1]
  unfold mIx
  show (match fM 4 (nameOf p) (mpR bs es) with | some i => (i : Int) | none => -1) = _
  rw [mpR_fM _ hl]
theorem InI.ptr (I : InI p bs es eA eB ρ) (hl : bs.length = es.length) {i : Nat} (hi : ixN (nameOf p) es = some i) : (den ρ ptrT).i.toNat = bs.getD i 0 := by
  have h := I.ix hl
  rw [hi] at h
  change (den ρ ixT).i = (i : Int) at h
  show (getV .ptr (((ρ.c 1).getD (den ρ ixT).i.toNat []).getD 4 (.bool false))).i.toNat = _
  rw [h, I.c1, Int.toNat_natCast, mpR_get hl (ixN_some hi).1]
  show (((bs.getD i 0 : Nat) : Int)).toNat = _
  exact Int.toNat_natCast _
theorem InI.del (I : InI p bs es eA eB ρ) (hl : bs.length = es.length) {i : Nat} (hi : ixN (nameOf p) es = some i) : (den ρ delT).c = mpR (bs.eraseIdx i) (es.eraseIdx i) := by
  show mDel 4 ((den ρ keyT).c.headD []) (ρ.c 1) = _
  rw [I.key, I.c1]
  exact mpR_del hl hi
theorem TbP.bds (hp : TbP p) (I : InI p bs es eA eB ρ) (h8 : (mpR bs es).length ≤ 8) : bdsP ρ tBs := by
  have N := pk_n hp.ok I.p20
  have h1 := hp.pr
  have h2 := hp.tt
  have h3 := hp.id
  have h4 := hp.of
  have h5 := hp.sz
  have h6 := hp.to
  have e6 : pTo p = 8 * pOff p + pSz p := rfl
  have z : (0 : Int) ≤ pSz p := by unfold pSz; omega
  have es28 : ((ρ.s 28).size : Int) = pSz p := by rw [N.s28]; rfl
  refine ⟨?_, N.a20, N.a21, ?_, ?_, ?_, ?_, ?_, ?_, trivial⟩
  · show (0 : Int) ≤ ((ρ.c 1).length : Int) ∧ ((ρ.c 1).length : Int) ≤ 8
    rw [I.c1]; omega
  · show (0 : Int) ≤ ρ.i 22 ∧ ρ.i 22 ≤ 255
    rw [N.a22]; exact h1
  · show (0 : Int) ≤ ρ.i 23 ∧ ρ.i 23 ≤ 255
    rw [N.a23]; exact h2
  · show (0 : Int) ≤ ρ.i 24 ∧ ρ.i 24 ≤ 65535
    rw [N.a24]; exact h3
  · show (0 : Int) ≤ ρ.i 27 ∧ ρ.i 27 ≤ 8191
    rw [N.a27]; exact h4
  · show (0 : Int) ≤ ((ρ.s 28).size : Int) ∧ ((ρ.s 28).size : Int) ≤ 1400
    omega
  · show (0 : Int) ≤ 8 * ρ.i 27 + ((ρ.s 28).size : Int) ∧ 8 * ρ.i 27 + ((ρ.s 28).size : Int) ≤ 4000
    rw [N.a27, es28]; omega
def frN (g m : Nat) : Bn := fun l => if l = 0 then g else if l = 2 then m else 0
theorem fr_init (h : FrT w g m bs es) (I : InI p bs es eA eB ρ) {c : Cx} (hc : c.ok ρ) : Md ρ (fun i => i = m) w (frN g m) 50 (inS c) (frN g m) ⟨#[], []⟩ w := by
  refine Sy.Md.init ⟨?_, ?_, trivial⟩ ⟨⟨fun _ _ => ?_, trivial⟩, trivial, trivial⟩ ⟨fun h => (by cases h), fun _ _ i hi => ?_, trivial⟩ hc rfl
  · exact h.obj
  · show MapT w m nmLv true .ptr (ρ.c 1)
    rw [I.c1]; exact h.map
  · exact apart.of rfl rfl h.g_m
  · exact fp_one rfl hi
theorem Md.anyS {S S' : Nat → Prop} {w0 : World} {β0 β : Bn} {n0 : Nat} {s : Sy.St} {a : Act} (hM : Md ρ S w0 β0 n0 s β a w) (hS : ∀ i, S i → S' i) (n : Nat) : Md ρ S' w0 β n s β a w :=
  ⟨hM.act, hM.hp, hM.ne, fun b hb hr hl g hg => (hM.may b hb hr hl g hg).imp (hS g) id, hM.cx, hM.only.mono fun i _ hi => hS i hi, fun _ _ => rfl⟩
/-- The run up to the look-up. -/
theorem in_head (h : FrT w g m bs es) (hp : TbP p) (I : InI p bs es eA eB ρ) {R : Value → World → Prop}
    (tail : ∀ ρ', InI p bs es eA eB ρ' → ∀ β a w1, β 0 = g → β 2 = m → Md ρ' (fun i => i = m) w (frN g m) 50 (inT Try.prog Try.f8) β a w1 → (inC Try.f8).wp Try.prog (bodyPost Try.prog Try.f8 (RetP R)) a w1) :
    Calls Try.prog 8 #[.pointer (some ⟨g, 0, none⟩), .agg p.toArray] w (RetP R) := by
  have h8 : (mpR bs es).length ≤ 8 := by rw [mpR_len h.len]; exact h.ok.l8
  have N := pk_n hp.ok I.p20
  have hargs : (#[.pointer (some ⟨g, 0, none⟩), .agg p.toArray] : Array Value) = (inA.map (SV.den ρ (frN g m))).toArray := by
    show _ = #[Value.pointer (some ⟨g, 0, none⟩), .agg (denL ρ (frN g m) (pkC 20)).toArray]
    rw [I.p20]
  have fin : ∀ (c : Cx), (matchS 50 (inT Try.prog Try.f8) (lfAt (inR0 Try.prog Try.f8 c) 0)).map noU = some [] → ∀ β a w1, Md ρ (fun i => i = m) w (frN g m) 50 (lfAt (inR0 Try.prog Try.f8 c) 0) β a w1 → (inC Try.f8).wp Try.prog (bodyPost Try.prog Try.f8 (RetP R)) a w1 := fun c hm β a w1 M => by
    have I1 : ∀ u, InI p bs es eA eB { ρ.sub β [] with u := u } := fun u => ⟨I.good, I.p20, I.c1, ⟨I.A.f, I.A.i10, I.A.i11, I.A.b12, I.A.i13, I.A.c1, I.A.c2⟩, ⟨I.B.f, I.B.i10, I.B.i11, I.B.b12, I.B.i13, I.B.c1, I.B.c2⟩⟩
    obtain ⟨u, β', M'⟩ := Sy.Md.enter M hm fun u => by rw [in_cx]; exact cxP (hp.bds (I1 u) h8) trivial
    exact tail _ (I1 u) β' a w1 (M'.old 0 (by decide)) (M'.old 2 (by decide)) M'
  cases hmo : pMore p with
  | true =>
    obtain ⟨z0, z1⟩ := hp.m1 hmo
    have hc : Cx.ok ρ ⟨tBs, pc1⟩ := cxP (hp.bds I h8) ⟨by rw [t_bv, N.b26]; exact hmo, by
      rw [t_not, t_eq]
      show ¬ ((ρ.s 28).size : Int) = 0
      rw [N.s28]; exact z0, by
      rw [t_eq]
      show ((ρ.s 28).size : Int) % 8 = 0
      rw [N.s28]; exact z1, trivial⟩
    refine calls_pre (B := ⟨ρ, fun i => i = m, w, frN g m, 50⟩) (sp := []) (p := inP) (xs := inA) (s := inS ⟨tBs, pc1⟩) (r := inR0 Try.prog Try.f8 ⟨tBs, pc1⟩) I.good (fun q hq => by cases hq) rfl Try.func8 rfl rfl in_run1 (fr_init h I hc) ⟨?_, trivial⟩ hargs
    intro _ β a w1 M
    exact fin _ in_m1 β a w1 M
  | false =>
    have hc : Cx.ok ρ ⟨tBs, pc2⟩ := cxP (hp.bds I h8) ⟨by
      rw [t_not, t_bv, N.b26, hmo]
      decide, by
      rw [t_not, t_eq]
      show ¬ ρ.i 27 = 0
      rw [N.a27]; exact hp.m0 hmo, trivial⟩
    refine calls_pre (B := ⟨ρ, fun i => i = m, w, frN g m, 50⟩) (sp := []) (p := inP) (xs := inA) (s := inS ⟨tBs, pc2⟩) (r := inR0 Try.prog Try.f8 ⟨tBs, pc2⟩) I.good (fun q hq => by cases hq) rfl Try.func8 rfl rfl in_run2 (fr_init h I hc) ⟨?_, trivial⟩ hargs
    intro _ β a w1 M
    exact fin _ in_m2 β a w1 M
/-! What is left of the table. -/
/-- Only the map and that one block have turned. -/
def onB (m b : Nat) (i : Nat) : Prop := i = m ∨ i = b
theorem FrT.obj' (h : FrT w g m bs es) {b : Nat} (hb : b = m ∨ b ∈ bs ∨ w.heap.size ≤ b) (ho : Only (onB m b) w w1) : Blk w1 g 53 [.map (some m)] := h.obj.only ho fun e => by
  rcases e with e | e
  · exact h.g_m e
  · rcases hb with hb | hb | hb
    · exact h.g_m (e.trans hb)
    · exact h.g_b (e ▸ hb)
    · have := h.obj.lt; omega
theorem FrT.erased (h : FrT w g m bs es) {i : Nat} (hi : i < es.length) (ho : Only (onB m (bs.getD i 0)) w w1) (hm : MapT w1 m nmLv true .ptr (mpR (bs.eraseIdx i) (es.eraseIdx i))) : FrGo w w1 g m bs (es.eraseIdx i) := by
  have hl := h.len
  have hib : i < bs.length := by omega
  have hsub : ∀ x, x ∈ bs.eraseIdx i → x ∈ bs := fun x hx => List.mem_of_mem_eraseIdx hx
  refine ⟨bs.eraseIdx i, ⟨h.obj' (.inr (.inl (nat_getD_mem hib))) ho, hm, ?_, ?_, fun j hj => ?_, h.ok.erase i⟩, ho.mono fun x _ hx => ?_, fun x hx => .inl ?_⟩
  · rw [List.length_eraseIdx, List.length_eraseIdx, hl]
  · exact List.Nodup.sublist (List.Sublist.cons_cons _ (List.Sublist.cons_cons _ (List.eraseIdx_sublist bs i))) h.nd
  · have hj' : j < es.length - 1 := by rw [List.length_eraseIdx, if_pos hi] at hj; exact hj
    have e1 : ∀ {α : Type} (l : List α) (d : α), (l.eraseIdx i).getD j d = l.getD (if j < i then j else j + 1) d := fun l d => by
      rw [List.getD_eq_getElem?_getD, List.getD_eq_getElem?_getD, List.getElem?_eraseIdx]
      split <;> rfl
    rw [e1, e1]
    have hk : (if j < i then j else j + 1) < es.length := by split <;> omega
    have hki : (if j < i then j else j + 1) ≠ i := by split <;> omega
    generalize (if j < i then j else j + 1) = k at hk hki
    refine (h.blk k hk).only ho fun e => ?_
    have hkb : k < bs.length := by omega
    rcases e with e | e
    · exact h.m_b (e ▸ nat_getD_mem hkb)
    · rw [List.getD_eq_getElem?_getD, List.getD_eq_getElem?_getD, List.getElem?_eq_getElem hkb, List.getElem?_eq_getElem hib] at e
      exact hki ((List.getElem_inj h.b_b).1 e)
  · rcases hx with rfl | rfl
    · exact List.mem_cons_of_mem _ (List.mem_cons_self ..)
    · exact List.mem_cons_of_mem _ (List.mem_cons_of_mem _ (nat_getD_mem hib))
  · rcases List.mem_cons.1 hx with rfl | hx
    · exact List.mem_cons_self ..
    · rcases List.mem_cons.1 hx with rfl | hx
      · exact List.mem_cons_of_mem _ (List.mem_cons_self ..)
      · exact List.mem_cons_of_mem _ (List.mem_cons_of_mem _ (hsub x hx))
theorem FrT.turned (h : FrT w g m bs es) {i : Nat} (hi : i < es.length) {e : Ent} (he : FOk (es.set i e)) (hn : enN e = enN (es.getD i (0, []))) (ho : Only (onB m (bs.getD i 0)) w w1) (hm : MapT w1 m nmLv true .ptr (mpR bs es)) (hb : Blk w1 (bs.getD i 0) 60 (whV e.1 e.2)) : FrGo w w1 g m bs (es.set i e) := by
  have hl := h.len
  have hib : i < bs.length := by omega
  refine ⟨bs, ⟨h.obj' (.inr (.inl (nat_getD_mem hib))) ho, by rw [mpR_set hn]; exact hm, by rw [List.length_set]; exact hl, h.nd, fun j hj => ?_, he⟩, ho.mono fun x _ hx => ?_, fun x hx => .inl hx⟩
  · rw [List.length_set] at hj
    by_cases q : j = i
    · subst q
      rw [show (es.set j e).getD j (0, []) = e by rw [List.getD_eq_getElem?_getD, List.getElem?_set_self hi]; rfl]
      exact hb
    · rw [show (es.set i e).getD j (0, []) = es.getD j (0, []) by rw [List.getD_eq_getElem?_getD, List.getD_eq_getElem?_getD, List.getElem?_set_ne (Ne.symm q)]]
      refine (h.blk j hj).only ho fun e' => ?_
      have hjb : j < bs.length := by omega
      rcases e' with e' | e'
      · exact h.m_b (e' ▸ nat_getD_mem hjb)
      · rw [List.getD_eq_getElem?_getD, List.getD_eq_getElem?_getD, List.getElem?_eq_getElem hjb, List.getElem?_eq_getElem hib] at e'
        exact q ((List.getElem_inj h.b_b).1 e')
  · rcases hx with rfl | rfl
    · exact List.mem_cons_of_mem _ (List.mem_cons_self ..)
    · exact List.mem_cons_of_mem _ (List.mem_cons_of_mem _ (nat_getD_mem hib))
theorem FrT.same (h : FrT w g m bs es) (ho : Only (fun i => i = m) w w1) (hm : MapT w1 m nmLv true .ptr (mpR bs es)) : FrGo w w1 g m bs es := by
  refine ⟨bs, ⟨h.obj' (b := m) (.inl rfl) (ho.mono fun x _ hx => .inl hx), hm, h.len, h.nd, fun j hj => ?_, h.ok⟩, ho.mono fun x _ hx => ?_, fun x hx => .inl hx⟩
  · refine (h.blk j hj).only ho fun e => h.m_b (e ▸ nat_getD_mem (by rw [h.len]; exact hj))
  · rw [hx]; exact List.mem_cons_of_mem _ (List.mem_cons_self ..)
theorem FrT.more (h : FrT w g m bs es) {e : Ent} (he : FOk (es ++ [e])) {b : Nat} (hb : w.heap.size ≤ b) (ho : Only (fun i => i = m) w w1) (hm : MapT w1 m nmLv true .ptr (mpR (bs ++ [b]) (es ++ [e]))) (hB : Blk w1 b 60 (whV e.1 e.2)) : FrGo w w1 g m bs (es ++ [e]) := by
  have hl := h.len
  have hg := h.lt (i := g) (List.mem_cons_self ..)
  have hmm := h.lt (i := m) (List.mem_cons_of_mem _ (List.mem_cons_self ..))
  have hlt : ∀ x ∈ bs, x < w.heap.size := fun x hx => h.lt (List.mem_cons_of_mem _ (List.mem_cons_of_mem _ hx))
  refine ⟨bs ++ [b], ⟨h.obj' (b := m) (.inl rfl) (ho.mono fun x _ hx => .inl hx), hm, by simp [hl], ?_, fun j hj => ?_, he⟩, ho.mono fun x _ hx => ?_, fun x hx => ?_⟩
  · rw [show g :: m :: (bs ++ [b]) = (g :: m :: bs) ++ [b] from rfl, List.nodup_append]
    refine ⟨h.nd, by simp, fun x hx y hy => ?_⟩
    rw [List.mem_singleton.1 hy]
    have := h.lt (i := x) hx
    omega
  · rw [List.length_append, List.length_singleton] at hj
    by_cases q : j < es.length
    · rw [show (es ++ [e]).getD j (0, []) = es.getD j (0, []) by rw [List.getD_eq_getElem?_getD, List.getD_eq_getElem?_getD, List.getElem?_append_left q], show (bs ++ [b]).getD j 0 = bs.getD j 0 by rw [List.getD_eq_getElem?_getD, List.getD_eq_getElem?_getD, List.getElem?_append_left (by omega)]]
      exact (h.blk j q).only ho fun e => h.m_b (e ▸ nat_getD_mem (by omega))
    · have q : j = es.length := by omega
      subst q
      rw [show (es ++ [e]).getD es.length (0, []) = e by simp, show (bs ++ [b]).getD es.length 0 = b by rw [← hl]; simp]
      exact hB
  · rw [hx]; exact List.mem_cons_of_mem _ (List.mem_cons_self ..)
  · rw [show frF g m (bs ++ [b]) = frF g m bs ++ [b] from rfl] at hx
    rcases List.mem_append.1 hx with hx | hx
    · exact .inl hx
    · rw [List.mem_singleton.1 hx]; exact .inr hb
end
end Go.Proofs.Ytnmfmjlpfhdgeaa
/- Fragments: the program's In. -/
namespace Go.Proofs.Ytnmfmjlpfhdgeaa
open Go.RowKit Sy
set_option linter.unusedVariables false
set_option linter.unusedSimpArgs false

/-! It does not go into the table. -/
def hdL : List Sh := [(.out 0 .ret [(.lt (.il 8191) (.iv 27)), (.not (.lt (.iv 27) (.il 0))), (.not (.lt (.il 65535) (.iv 24))), (.not (.lt (.iv 24) (.il 0))), (.not (.lt (.il 255) (.iv 23))), (.not (.lt (.iv 23) (.il 0))), (.not (.lt (.il 255) (.iv 22))), (.not (.lt (.iv 22) (.il 0)))]), (.out 1 .ret [(.lt (.il 1400) (.len (.sv 28))), (.not (.lt (.il 8191) (.iv 27))), (.not (.lt (.iv 27) (.il 0))), (.not (.lt (.il 65535) (.iv 24))), (.not (.lt (.iv 24) (.il 0))), (.not (.lt (.il 255) (.iv 23))), (.not (.lt (.iv 23) (.il 0))), (.not (.lt (.il 255) (.iv 22))), (.not (.lt (.iv 22) (.il 0)))]), (.out 2 .ret [(.eq (.iv 27) (.il 0)), (.not (.bv 26)), (.not (.lt (.il 1400) (.len (.sv 28)))), (.not (.lt (.il 8191) (.iv 27))), (.not (.lt (.iv 27) (.il 0))), (.not (.lt (.il 65535) (.iv 24))), (.not (.lt (.iv 24) (.il 0))), (.not (.lt (.il 255) (.iv 23))), (.not (.lt (.iv 23) (.il 0))), (.not (.lt (.il 255) (.iv 22))), (.not (.lt (.iv 22) (.il 0)))]), (.out 3 .ret [(.lt (.il 4000) (.add (.wrap .i64 (.mul (.il 8) (.iv 27))) (.len (.sv 28)))), (.not (.eq (.iv 27) (.il 0))), (.not (.bv 26)), (.not (.lt (.il 1400) (.len (.sv 28)))), (.not (.lt (.il 8191) (.iv 27))), (.not (.lt (.iv 27) (.il 0))), (.not (.lt (.il 65535) (.iv 24))), (.not (.lt (.iv 24) (.il 0))), (.not (.lt (.il 255) (.iv 23))), (.not (.lt (.iv 23) (.il 0))), (.not (.lt (.il 255) (.iv 22))), (.not (.lt (.iv 22) (.il 0)))]), (.out 4 .normal [(.not (.lt (.il 4000) (.add (.wrap .i64 (.mul (.il 8) (.iv 27))) (.len (.sv 28))))), (.not (.eq (.iv 27) (.il 0))), (.not (.bv 26)), (.not (.lt (.il 1400) (.len (.sv 28)))), (.not (.lt (.il 8191) (.iv 27))), (.not (.lt (.iv 27) (.il 0))), (.not (.lt (.il 65535) (.iv 24))), (.not (.lt (.iv 24) (.il 0))), (.not (.lt (.il 255) (.iv 23))), (.not (.lt (.iv 23) (.il 0))), (.not (.lt (.il 255) (.iv 22))), (.not (.lt (.iv 22) (.il 0)))]), (.out 5 .ret [(.not (.eq (.md (.len (.sv 28)) (.il 8)) (.il 0))), (.not (.eq (.len (.sv 28)) (.il 0))), (.bv 26), (.not (.lt (.il 1400) (.len (.sv 28)))), (.not (.lt (.il 8191) (.iv 27))), (.not (.lt (.iv 27) (.il 0))), (.not (.lt (.il 65535) (.iv 24))), (.not (.lt (.iv 24) (.il 0))), (.not (.lt (.il 255) (.iv 23))), (.not (.lt (.iv 23) (.il 0))), (.not (.lt (.il 255) (.iv 22))), (.not (.lt (.iv 22) (.il 0)))]), (.out 6 .ret [(.lt (.il 4000) (.add (.wrap .i64 (.mul (.il 8) (.iv 27))) (.len (.sv 28)))), (.eq (.md (.len (.sv 28)) (.il 8)) (.il 0)), (.not (.eq (.len (.sv 28)) (.il 0))), (.bv 26), (.not (.lt (.il 1400) (.len (.sv 28)))), (.not (.lt (.il 8191) (.iv 27))), (.not (.lt (.iv 27) (.il 0))), (.not (.lt (.il 65535) (.iv 24))), (.not (.lt (.iv 24) (.il 0))), (.not (.lt (.il 255) (.iv 23))), (.not (.lt (.iv 23) (.il 0))), (.not (.lt (.il 255) (.iv 22))), (.not (.lt (.iv 22) (.il 0)))]), (.out 7 .normal [(.not (.lt (.il 4000) (.add (.wrap .i64 (.mul (.il 8) (.iv 27))) (.len (.sv 28))))), (.eq (.md (.len (.sv 28)) (.il 8)) (.il 0)), (.not (.eq (.len (.sv 28)) (.il 0))), (.bv 26), (.not (.lt (.il 1400) (.len (.sv 28)))), (.not (.lt (.il 8191) (.iv 27))), (.not (.lt (.iv 27) (.il 0))), (.not (.lt (.il 65535) (.iv 24))), (.not (.lt (.iv 24) (.il 0))), (.not (.lt (.il 255) (.iv 23))), (.not (.lt (.iv 23) (.il 0))), (.not (.lt (.il 255) (.iv 22))), (.not (.lt (.iv 22) (.il 0)))]), (.out 8 .ret [(.eq (.len (.sv 28)) (.il 0)), (.bv 26), (.not (.lt (.il 1400) (.len (.sv 28)))), (.not (.lt (.il 8191) (.iv 27))), (.not (.lt (.iv 27) (.il 0))), (.not (.lt (.il 65535) (.iv 24))), (.not (.lt (.iv 24) (.il 0))), (.not (.lt (.il 255) (.iv 23))), (.not (.lt (.iv 23) (.il 0))), (.not (.lt (.il 255) (.iv 22))), (.not (.lt (.iv 22) (.il 0)))]), (.out 9 .ret [(.lt (.iv 27) (.il 0)), (.not (.lt (.il 65535) (.iv 24))), (.not (.lt (.iv 24) (.il 0))), (.not (.lt (.il 255) (.iv 23))), (.not (.lt (.iv 23) (.il 0))), (.not (.lt (.il 255) (.iv 22))), (.not (.lt (.iv 22) (.il 0)))]), (.out 10 .ret [(.lt (.il 65535) (.iv 24)), (.not (.lt (.iv 24) (.il 0))), (.not (.lt (.il 255) (.iv 23))), (.not (.lt (.iv 23) (.il 0))), (.not (.lt (.il 255) (.iv 22))), (.not (.lt (.iv 22) (.il 0)))]), (.out 11 .ret [(.lt (.iv 24) (.il 0)), (.not (.lt (.il 255) (.iv 23))), (.not (.lt (.iv 23) (.il 0))), (.not (.lt (.il 255) (.iv 22))), (.not (.lt (.iv 22) (.il 0)))]), (.out 12 .ret [(.lt (.il 255) (.iv 23)), (.not (.lt (.iv 23) (.il 0))), (.not (.lt (.il 255) (.iv 22))), (.not (.lt (.iv 22) (.il 0)))]), (.out 13 .ret [(.lt (.iv 23) (.il 0)), (.not (.lt (.il 255) (.iv 22))), (.not (.lt (.iv 22) (.il 0)))]), (.out 14 .ret [(.lt (.il 255) (.iv 22)), (.not (.lt (.iv 22) (.il 0)))]), (.out 15 .ret [(.lt (.iv 22) (.il 0))])]
set_option maxRecDepth 100000 in
theorem in_runH : shR 50 none (inR0 Try.prog Try.f8 ⟨hBs, []⟩) = some hdL := by kernel_rfl
set_option maxRecDepth 100000 in
theorem in_rH1 : retsB Try.prog Try.f8 (inR0 Try.prog Try.f8 ⟨hBs, []⟩) (vIn zC false 1) [0, 9, 10, 11, 12, 13, 14, 15] = true := by kernel_rfl
set_option maxRecDepth 100000 in
theorem in_rH2 : retsB Try.prog Try.f8 (inR0 Try.prog Try.f8 ⟨hBs, []⟩) (vIn zC false 2) [1, 3, 6] = true := by kernel_rfl
set_option maxRecDepth 100000 in
theorem in_rH4 : retsB Try.prog Try.f8 (inR0 Try.prog Try.f8 ⟨hBs, []⟩) (vIn zC false 4) [5, 8] = true := by kernel_rfl
set_option maxRecDepth 100000 in
theorem in_rH0 : retsB Try.prog Try.f8 (inR0 Try.prog Try.f8 ⟨hBs, []⟩) (vIn (pkC 20) true 0) [2] = true := by kernel_rfl
set_option maxRecDepth 100000 in
theorem in_hpH : ([0, 1, 2, 3, 5, 6, 8, 9, 10, 11, 12, 13, 14, 15].all fun k => match find 2 (lfAt (inR0 Try.prog Try.f8 ⟨hBs, []⟩) k).hp with | some b => sameBk b (mpB (.cv 1)) | none => false) = true := by kernel_rfl
section
variable {p : List Value} {bs : List Nat} {es : List Ent} {w : World} {g m : Nat}
/-- What In answers. -/
def ansV (a : Ans) : Value := .tuple #[.agg a.k.toArray, .bool a.b, .int .i64 a.e]
theorem hd_c {c : Int} (hc : chkP p = c) (h0 : c ≠ 0) : hdK p = noPk ∧ hdB p = false ∧ hdE p = c := by
  have hb : hdB p = false := by unfold hdB; exact decide_eq_false fun e => h0 (hc.symm.trans e.1)
  exact ⟨by unfold hdK; rw [hb]; rfl, hb, by unfold hdE; rw [if_pos (by rw [hc]; exact h0), hc]⟩
theorem hd_p (hc : chkP p = 0) (hm : pMore p = false) (ho : pOff p = 0) : hdK p = p ∧ hdB p = true ∧ hdE p = 0 := by
  have hb : hdB p = true := by unfold hdB; exact decide_eq_true ⟨hc, hm, ho⟩
  exact ⟨by unfold hdK; rw [hb]; rfl, hb, by unfold hdE; rw [if_neg (by rw [hc]; decide), if_pos ⟨hm, ho⟩]⟩
theorem hd_4 (hc : chkP p = 0) (hm : pMore p = true) (hz : pSz p = 0 ∨ pSz p % 8 ≠ 0) : hdK p = noPk ∧ hdB p = false ∧ hdE p = 4 := by
  have hb : hdB p = false := by unfold hdB; exact decide_eq_false fun e => by rw [hm] at e; cases e.2.1
  exact ⟨by unfold hdK; rw [hb]; rfl, hb, by unfold hdE; rw [if_neg (by rw [hc]; decide), if_neg (fun e => by rw [hm] at e; cases e.1), if_pos ⟨hm, hz⟩]⟩
theorem hd_2 (hc : chkP p = 0) (h1 : ¬ (pMore p = false ∧ pOff p = 0)) (h2 : ¬ (pMore p = true ∧ (pSz p = 0 ∨ pSz p % 8 ≠ 0))) (h3 : 4000 < pTo p) : hdK p = noPk ∧ hdB p = false ∧ hdE p = 2 := by
  have hb : hdB p = false := by unfold hdB; exact decide_eq_false fun e => h1 e.2
  exact ⟨by unfold hdK; rw [hb]; rfl, hb, by unfold hdE; rw [if_neg (by rw [hc]; decide), if_neg h1, if_neg h2, if_pos h3]⟩
theorem chk_1 (h : (pPro p < 0 ∨ 255 < pPro p) ∨ (pTtl p < 0 ∨ 255 < pTtl p) ∨ (pId p < 0 ∨ 65535 < pId p) ∨ (pOff p < 0 ∨ 8191 < pOff p)) : chkP p = 1 := by unfold chkP; rw [if_pos h]
theorem chk_2 (h : ¬ ((pPro p < 0 ∨ 255 < pPro p) ∨ (pTtl p < 0 ∨ 255 < pTtl p) ∨ (pId p < 0 ∨ 65535 < pId p) ∨ (pOff p < 0 ∨ 8191 < pOff p))) (h2 : 1400 < pSz p) : chkP p = 2 := by unfold chkP; rw [if_neg h, if_pos h2]
theorem chk_0 (h : ¬ ((pPro p < 0 ∨ 255 < pPro p) ∨ (pTtl p < 0 ∨ 255 < pTtl p) ∨ (pId p < 0 ∨ 65535 < pId p) ∨ (pOff p < 0 ∨ 8191 < pOff p))) (h2 : ¬ 1400 < pSz p) : chkP p = 0 := by unfold chkP; rw [if_neg h, if_neg h2]
theorem wrap8 {x : Int} (h0 : 0 ≤ x) (h1 : x ≤ 8191) : IntKind.i64.wrap (8 * x) = 8 * x := wrap_in (k := .i64) (show (-9223372036854775808 : Int) ≤ 8 * x by omega) (show 8 * x ≤ (9223372036854775807 : Int) by omega)
set_option maxRecDepth 100000 in
set_option maxHeartbeats 4000000 in
theorem in_H (h : FrT w g m bs es) (hk : kAll pkLv p) (hT : isT p = false) : Calls Try.prog 8 #[.pointer (some ⟨g, 0, none⟩), .agg p.toArray] w (RetP fun v w' => v = ansV (inA' es p) ∧ FrGo w w' g m bs (inA' es p).es) := by
  have I := inEnv_I (bs := bs) (es := es) (eA := (0, [])) (eB := (0, [])) hk GL.nil GL.nil
  generalize inEnv p bs es (0, []) (0, []) = ρ at I
  have N := pk_n hk I.p20
  have hsz : ((ρ.s 28).size : Int) = pSz p := by rw [N.s28]; rfl
  have hz0 : (0 : Int) ≤ pSz p := by unfold pSz; omega
  have hto : pTo p = 8 * pOff p + pSz p := rfl
  have hzm : pSz p ≤ 9223372036854775807 := by
    obtain ⟨a, b, c, d, e, f, g, i, s, rfl, _, hs⟩ := pk_mk hk
    unfold pSz pBody gS
    show (((if s.size ≤ 9223372036854775807 then s else none8).size : Nat) : Int) ≤ _
    rw [if_pos hs]; omega
  have bi : ∀ j, -9223372036854775808 ≤ gI .i64 p j ∧ gI .i64 p j ≤ 9223372036854775807 := fun j => gI_bd (k := .i64) p j
  have h8 : (mpR bs es).length ≤ 8 := by rw [mpR_len h.len]; exact h.ok.l8
  have hc : Cx.ok ρ ⟨hBs, []⟩ := by
    refine cxP ⟨?_, N.a20, N.a21, ?_, ?_, ?_, ?_, ?_, trivial⟩ trivial
    · show (0 : Int) ≤ ((ρ.c 1).length : Int) ∧ ((ρ.c 1).length : Int) ≤ 8
      rw [I.c1]; omega
    · show _ ≤ ρ.i 22 ∧ ρ.i 22 ≤ _
      rw [N.a22]; exact bi 2
    · show _ ≤ ρ.i 23 ∧ ρ.i 23 ≤ _
      rw [N.a23]; exact bi 3
    · show _ ≤ ρ.i 24 ∧ ρ.i 24 ≤ _
      rw [N.a24]; exact bi 4
    · show _ ≤ ρ.i 27 ∧ ρ.i 27 ≤ _
      rw [N.a27]; exact bi 7
    · show (0 : Int) ≤ ((ρ.s 28).size : Int) ∧ ((ρ.s 28).size : Int) ≤ 9223372036854775807
      omega
  have hargs : (#[.pointer (some ⟨g, 0, none⟩), .agg p.toArray] : Array Value) = (inA.map (SV.den ρ (frN g m))).toArray := by
    show _ = #[Value.pointer (some ⟨g, 0, none⟩), .agg (denL ρ (frN g m) (pkC 20)).toArray]
    rw [I.p20]
  have hA : inA' es p = ⟨hdK p, hdB p, hdE p, es⟩ := by unfold inA'; rw [hT]; rfl
  rw [hA]
  have hno : chkP p = 0 → ¬ (pMore p = false ∧ pOff p = 0) → ¬ (pMore p = true ∧ (pSz p = 0 ∨ pSz p % 8 ≠ 0)) → 4000 < pTo p := fun a b c => by
    refine Classical.byContradiction fun d => ?_
    have := decide_eq_true (p := chkP p = 0 ∧ ¬ (pMore p = false ∧ pOff p = 0) ∧ ¬ (pMore p = true ∧ (pSz p = 0 ∨ pSz p % 8 ≠ 0)) ∧ ¬ 4000 < pTo p) ⟨a, b, c, d⟩
    unfold isT at hT
    rw [this] at hT
    cases hT
  have fin : ∀ (cs : List C) (b : Bool) (e : Int) (ks : List Nat) (k : Nat), retsB Try.prog Try.f8 (inR0 Try.prog Try.f8 ⟨hBs, []⟩) (vIn cs b e) ks = true → ks.contains k = true → (match find 2 (lfAt (inR0 Try.prog Try.f8 ⟨hBs, []⟩) k).hp with | some b => sameBk b (mpB (.cv 1)) | none => false) = true → (∀ β, denL ρ β cs = hdK p) → hdB p = b → hdE p = e →
      ∀ β a w', Md ρ (fun i => i = m) w (frN g m) 50 (lfAt (inR0 Try.prog Try.f8 ⟨hBs, []⟩) k) β a w' → bodyPost Try.prog Try.f8 (RetP fun v w' => v = ansV ⟨hdK p, hdB p, hdE p, es⟩ ∧ FrGo w w' g m bs es) .ret a w' := fun cs b e ks k h1 h2 h3 h4 h5 h6 β a w' M => by
    refine ret_post (B := ⟨ρ, fun i => i = m, w, frN g m, 50⟩) M (retsB_ok h1 h2) ⟨?_, ?_⟩
    · show Value.tuple #[.agg (denL ρ β cs).toArray, .bool b, .int .i64 e] = _
      rw [h4, ← h5, ← h6]
      rfl
    · split at h3
      · rename_i x hf
        have := sameBk_eq h3
        subst this
        have hB := (Sy.Md.find M hf).1
        have hB : MapT w' (β 2) nmLv true .ptr (ρ.c 1) := hB
        rw [I.c1, show β 2 = m from M.old 2 (by decide)] at hB
        exact h.same M.only hB
      · cases h3
  have hh := in_hpH
  simp only [List.all_cons, List.all_nil, Bool.and_eq_true, and_true] at hh
  obtain ⟨q0, q1, q2, q3, q5, q6, q8, q9, q10, q11, q12, q13, q14, q15⟩ := hh
  refine calls_pre (B := ⟨ρ, fun i => i = m, w, frN g m, 50⟩) (sp := []) (p := inP) (xs := inA) (s := inS ⟨hBs, []⟩) (r := inR0 Try.prog Try.f8 ⟨hBs, []⟩) I.good (fun q hq => by cases hq) rfl Try.func8 rfl rfl in_runH (fr_init h I hc) ?_ hargs
  have z : ∀ β, denL ρ β zC = noPk := fun β => rfl
  have a22 := N.a22
  have a23 := N.a23
  have a24 := N.a24
  have a27 := N.a27
  have b26 := N.b26
  refine ⟨?_, ?_, ?_, ?_, ?_, ?_, ?_, ?_, ?_, ?_, ?_, ?_, ?_, ?_, ?_, ?_, trivial⟩ <;> intro hpc <;> simp only [pcs, t_lt, t_le, t_eq, t_not, t_bv, i_iv, i_il, i_add, i_len, i_md, i_mul, i_wrapE, s_sv, a22, a23, a24, a27, b26, hsz, Bool.not_eq_true] at hpc
  · obtain ⟨x0, x1, x2⟩ := hd_c (chk_1 (p := p) (by omega)) (by decide)
    exact fin zC false 1 _ 0 in_rH1 rfl q0 (fun β => (z β).trans x0.symm) x1 x2
  · obtain ⟨x0, x1, x2⟩ := hd_c (chk_2 (p := p) (by omega) (by omega)) (by decide)
    exact fin zC false 2 _ 1 in_rH2 rfl q1 (fun β => (z β).trans x0.symm) x1 x2
  · obtain ⟨x0, x1, x2⟩ := hd_p (chk_0 (p := p) (by omega) (by omega)) (by simp_all) (by omega)
    exact fin (pkC 20) true 0 _ 2 in_rH0 rfl q2 (fun β => (I.p20 β).trans x0.symm) x1 x2
  · have hm : pMore p = false := by simp_all
    have hw := wrap8 (x := pOff p) (by omega) (by omega)
    rw [hw] at hpc
    obtain ⟨x0, x1, x2⟩ := hd_2 (chk_0 (p := p) (by omega) (by omega)) (fun e => by omega) (fun e => by rw [hm] at e; cases e.1) (by omega)
    exact fin zC false 2 _ 3 in_rH2 rfl q3 (fun β => (z β).trans x0.symm) x1 x2
  · have hm : pMore p = false := by simp_all
    have hw := wrap8 (x := pOff p) (by omega) (by omega)
    rw [hw] at hpc
    have := hno (chk_0 (p := p) (by omega) (by omega)) (fun e => by omega) (fun e => by rw [hm] at e; cases e.1)
    omega
  · have hm : pMore p = true := by simp_all
    obtain ⟨x0, x1, x2⟩ := hd_4 (chk_0 (p := p) (by omega) (by omega)) hm (by omega)
    exact fin zC false 4 _ 5 in_rH4 rfl q5 (fun β => (z β).trans x0.symm) x1 x2
  · have hm : pMore p = true := by simp_all
    have hw := wrap8 (x := pOff p) (by omega) (by omega)
    rw [hw] at hpc
    obtain ⟨x0, x1, x2⟩ := hd_2 (chk_0 (p := p) (by omega) (by omega)) (fun e => by rw [hm] at e; cases e.1) (fun e => by omega) (by omega)
    exact fin zC false 2 _ 6 in_rH2 rfl q6 (fun β => (z β).trans x0.symm) x1 x2
  · have hm : pMore p = true := by simp_all
    have hw := wrap8 (x := pOff p) (by omega) (by omega)
    rw [hw] at hpc
    have := hno (chk_0 (p := p) (by omega) (by omega)) (fun e => by rw [hm] at e; cases e.1) (fun e => by omega)
    omega
  · have hm : pMore p = true := by simp_all
    obtain ⟨x0, x1, x2⟩ := hd_4 (chk_0 (p := p) (by omega) (by omega)) hm (by omega)
    exact fin zC false 4 _ 8 in_rH4 rfl q8 (fun β => (z β).trans x0.symm) x1 x2
  · obtain ⟨x0, x1, x2⟩ := hd_c (chk_1 (p := p) (by omega)) (by decide)
    exact fin zC false 1 _ 9 in_rH1 rfl q9 (fun β => (z β).trans x0.symm) x1 x2
  · obtain ⟨x0, x1, x2⟩ := hd_c (chk_1 (p := p) (by omega)) (by decide)
    exact fin zC false 1 _ 10 in_rH1 rfl q10 (fun β => (z β).trans x0.symm) x1 x2
  · obtain ⟨x0, x1, x2⟩ := hd_c (chk_1 (p := p) (by omega)) (by decide)
    exact fin zC false 1 _ 11 in_rH1 rfl q11 (fun β => (z β).trans x0.symm) x1 x2
  · obtain ⟨x0, x1, x2⟩ := hd_c (chk_1 (p := p) (by omega)) (by decide)
    exact fin zC false 1 _ 12 in_rH1 rfl q12 (fun β => (z β).trans x0.symm) x1 x2
  · obtain ⟨x0, x1, x2⟩ := hd_c (chk_1 (p := p) (by omega)) (by decide)
    exact fin zC false 1 _ 13 in_rH1 rfl q13 (fun β => (z β).trans x0.symm) x1 x2
  · obtain ⟨x0, x1, x2⟩ := hd_c (chk_1 (p := p) (by omega)) (by decide)
    exact fin zC false 1 _ 14 in_rH1 rfl q14 (fun β => (z β).trans x0.symm) x1 x2
  · obtain ⟨x0, x1, x2⟩ := hd_c (chk_1 (p := p) (by omega)) (by decide)
    exact fin zC false 1 _ 15 in_rH1 rfl q15 (fun β => (z β).trans x0.symm) x1 x2
end
end Go.Proofs.Ytnmfmjlpfhdgeaa
/- Fragments: the program's In: its contract. -/
namespace Go.Proofs.Ytnmfmjlpfhdgeaa
open Go.RowKit Sy
set_option linter.unusedVariables false
set_option linter.unusedSimpArgs false

section
variable {p : List Value} {bs : List Nat} {es : List Ent} {eA eB : Ent} {ρ : Env} {w w1 : World} {g m : Nat}
theorem InI.bdsA (I : InI p bs es eA eB ρ) (hp : TbP p) (hl : bs.length = es.length) (h8 : es.length ≤ 8) {i : Nat} (hi : ixN (nameOf p) es = some i) : bdsP ρ cxA.bs := by
  refine ⟨?_, hp.bds I (by rw [mpR_len hl]; exact h8)⟩
  show (0 : Int) ≤ (den ρ ixT).i ∧ (den ρ ixT).i ≤ 7
  have h := I.ix hl
  rw [hi] at h
  change (den ρ ixT).i = (i : Int) at h
  have := (ixN_some hi).1
  omega
theorem out_den (I : InI p bs es eA eB ρ) (β : Bn) : denL ρ β ouC = whP eB.2 := by
  have e := I.B.f β
  have e2 : (fsC eB.2) = [Value.int .u32 (ρ.i 230), .int .u32 (ρ.i 231), .int .i64 (ρ.i 232), .int .i64 (ρ.i 233), .int .i64 (ρ.i 234), .bool (ρ.b 235), .bool (ρ.b 236), .int .i64 (ρ.i 237), .string (ρ.s 238)] := e.symm
  have c1 : ρ.c 201 = byT eB.2 := I.B.c1
  have i1 : ρ.i 210 = enOf eB.2 := I.B.i10
  show [Value.int .u32 (ρ.i 230), .int .u32 (ρ.i 231), .int .i64 (ρ.i 232), .int .i64 (ρ.i 233), .int .i64 (ρ.i 234), .bool (ρ.b 235), .bool false, .int .i64 0, .string (strT (((ρ.c 201).drop ((0 : Int)).toNat).take ((ρ.i 210).toNat - ((0 : Int)).toNat)))] = whP eB.2
  rw [c1, i1]
  unfold whP boS
  rw [e2]
  rfl
/-- The frame in which the entry's block is brought out. -/
theorem in_focus (h : FrT w g m bs es) (I : InI p bs es eA eB ρ) {i : Nat} (hi : ixN (nameOf p) es = some i) (hA : eA = es.getD i (0, [])) {β : Bn} {a : Act} (h0 : β 0 = g) (h2 : β 2 = m) (M : Md ρ (fun i => i = m) w (frN g m) 50 (inT Try.prog Try.f8) β a w1) {c : Cx} (hc : c.ok ρ) :
    ∃ β', β' 2 = m ∧ β' 80 = bs.getD i 0 ∧ Md ρ (onB m (bs.getD i 0)) w β' 90 (inSA Try.prog Try.f8 c) β' a w1 := by
  have hl := h.len
  have hil := (ixN_some hi).1
  have hib : i < bs.length := by omega
  have hbm : bs.getD i 0 ∈ bs := nat_getD_mem hib
  have hlt := h.lt (i := bs.getD i 0) (List.mem_cons_of_mem _ (List.mem_cons_of_mem _ hbm))
  have hbne : bs.getD i 0 ≠ m := fun e => h.m_b (e ▸ hbm)
  have hB : Blk w1 (bs.getD i 0) 60 (whV eA.1 eA.2) := by
    rw [hA]
    exact (h.blk i hil).only M.only hbne
  obtain ⟨f0, f1⟩ := Prod.mk.inj in_fr
  obtain ⟨f1, f2⟩ := Prod.mk.inj f1
  obtain ⟨f2, f3⟩ := Prod.mk.inj f2
  have M1 := Go.Proofs.Ytnmfmjlpfhdgeaa.Md.anyS M (S' := onB m (bs.getD i 0)) (fun i hi => .inl hi) 80
  have box : ∀ x ∈ (inT Try.prog Try.f8).hp, x.own = false → x.rw = true → x.real β → β x.l ≠ m → ¬ fp β x (bs.getD i 0) := fun x hx ho hw hr hne hf => by
    rcases M.may x hx hw hr _ hf with q | q
    · exact hbne q
    · omega
  obtain ⟨β2, M2, e80⟩ := Go.Proofs.Ytnmfmjlpfhdgeaa.Md.focusB M1 80 (Nat.le_refl _) f0 f1 f2 f3 (b := whBk 80 100) (t := ptrT) rfl rfl (I.ptr hl hi) (fun β hβ => (I.A.bk hβ).2 hB) (fun x hx hr hf => by
    have hx' := hx
    rw [in_hp] at hx'
    simp only [List.mem_cons, List.not_mem_nil, or_false] at hx'
    have fresh : x.own = false → x.rw = true → False := fun ho hw => by
      rcases M.may x hx hw hr _ hf with q | q
      · exact hbne q
      · omega
    rcases hx' with rfl | rfl | rfl | rfl | rfl
    · exact fresh rfl rfl
    · exact fresh rfl rfl
    · exact fresh rfl rfl
    · exact h.g_b (((fp_one rfl hf).trans h0) ▸ hbm)
    · exact hbne ((fp_one rfl hf).trans h2)) (fun _ => .inl (.inr rfl))
  refine ⟨β2, (M2.old 2 (by decide)).trans h2, e80, ?_⟩
  exact Go.Proofs.Ytnmfmjlpfhdgeaa.Md.nxTo (Go.Proofs.Ytnmfmjlpfhdgeaa.Md.cxTo (Go.Proofs.Ytnmfmjlpfhdgeaa.Md.anyS M2 (fun _ q => q) 90) c hc) 90
set_option maxHeartbeats 1000000 in
/-- It is there. -/
theorem in_some (h : FrT w g m bs es) (hp : TbP p) {i : Nat} (hi : ixN (nameOf p) es = some i) : Calls Try.prog 8 #[.pointer (some ⟨g, 0, none⟩), .agg p.toArray] w (RetP fun v w' => v = ansV (tbA es p) ∧ FrGo w w' g m bs (tbA es p).es) := by
  have hl := h.len
  obtain ⟨hil, hN⟩ := ixN_some hi
  have hpk := hp.ok
  have hE := h.ok.ok _ (List.getElem_mem hil)
  rw [← getD_at hil] at hE
  have hok := h.ok.tbA hp
  have ha : tbA es p = if (es.getD i (0, [])).2.any (fgt p) then ⟨noPk, false, 4, es.eraseIdx i⟩
    else if dnB ((es.getD i (0, [])).2 ++ [p]) then ⟨whP ((es.getD i (0, [])).2 ++ [p]), true, 0, es.eraseIdx i⟩
    else ⟨noPk, false, 0, es.set i ((es.getD i (0, [])).1, (es.getD i (0, [])).2 ++ [p])⟩ := by unfold tbA; rw [hi]
  have hmapT : ∀ {ρ : Env} {t : Tm} {β : Bn} {w' : World} {L : Rws}, (den ρ t).c = L → BkOk ρ β w' (mpB t) → MapT w' (β 2) nmLv true .ptr L := fun e hB => by
    rw [← e]; exact hB
  cases hany : (es.getD i (0, [])).2.any (fgt p) with
  | true =>
    rw [hany, if_pos rfl] at ha
    rw [ha]
    have I := inEnv_I (bs := bs) (es := es) (eA := es.getD i (0, [])) (eB := (0, [])) hpk hE.gl GL.nil
    refine in_head h hp I fun ρ I β a w1 h0 h2 M => ?_
    have N := pk_n hpk I.p20
    obtain ⟨β2, b2, b80, M2⟩ := in_focus h I hi rfl h0 h2 M (c := cxA) (cxP (I.bdsA hp hl h.ok.l8 hi) trivial)
    refine tail_fin (B := ⟨ρ, onB m (bs.getD i 0), w, β2, 90⟩) (sp := [ptSp false, dnSp false]) (lim := 10) (fuel := 400) I.good (fun q hq => ?_) in_A1 ⟨?_, trivial⟩ M2
    · simp only [List.mem_cons, List.not_mem_nil, or_false] at hq
      rcases hq with rfl | rfl
      · have := ptSp_ok (ρ := ρ) (p := p) I.A (fun e => by rw [hany] at e; cases e) hE.gl hp.row I.p20 N.a27
        rw [hany] at this
        exact this
      · exact dnSp_ok (ρ := ρ) (e := (0, [])) I.B GL.nil
    · intro _ β3 w3 hH
      have hM : MapT w3 (β3 2) nmLv true .ptr (mpR (bs.eraseIdx i) (es.eraseIdx i)) := hmapT (I.del hl hi) (hH.hp (mpB delT) (by simp))
      rw [show β3 2 = m from (hH.old 2 (show 2 < 90 by decide)).trans b2] at hM
      exact ⟨rfl, h.erased hil hH.only hM⟩
  | false =>
    rw [hany, if_neg (by decide)] at ha
    have hG := hE.gl.snoc hp.row hany
    have I := inEnv_I (bs := bs) (es := es) (eA := es.getD i (0, [])) (eB := ((es.getD i (0, [])).1, (es.getD i (0, [])).2 ++ [p])) hpk hE.gl hG
    have spY : ∀ {ρ : Env}, InI p bs es (es.getD i (0, [])) ((es.getD i (0, [])).1, (es.getD i (0, [])).2 ++ [p]) ρ → ∀ d, dnB ((es.getD i (0, [])).2 ++ [p]) = d → ∀ q ∈ [ptSp true, dnSp d], q.Ok Try.prog ρ := fun {ρ} I d hd q hq => by
      simp only [List.mem_cons, List.not_mem_nil, or_false] at hq
      rcases hq with rfl | rfl
      · have := ptSp_ok (ρ := ρ) (p := p) I.A (fun _ => I.B) hE.gl hp.row I.p20 (pk_n hpk I.p20).a27
        rw [hany] at this
        exact this
      · rw [← hd]
        exact dnSp_ok (ρ := ρ) (e := ((es.getD i (0, [])).1, (es.getD i (0, [])).2 ++ [p])) I.B hG
    cases hd : dnB ((es.getD i (0, [])).2 ++ [p]) with
    | false =>
      rw [hd, if_neg (by decide)] at ha
      rw [ha] at hok ⊢
      refine in_head h hp I fun ρ I β a w1 h0 h2 M => ?_
      obtain ⟨β2, b2, b80, M2⟩ := in_focus h I hi rfl h0 h2 M (c := cxA) (cxP (I.bdsA hp hl h.ok.l8 hi) trivial)
      refine tail_fin (B := ⟨ρ, onB m (bs.getD i 0), w, β2, 90⟩) (sp := [ptSp true, dnSp false]) (lim := 10) (fuel := 400) I.good (spY I false hd) in_A2 ⟨?_, trivial⟩ M2
      intro _ β3 w3 hH
      have hM : MapT w3 (β3 2) nmLv true .ptr (mpR bs es) := hmapT (ρ := ρ) (t := .cv 1) I.c1 (hH.hp (mpB (.cv 1)) (by simp))
      rw [show β3 2 = m from (hH.old 2 (show 2 < 90 by decide)).trans b2] at hM
      have hB := (I.B.bk (n := 80) (g := bs.getD i 0) (w := w3) (β := β3) ((hH.old 80 (show 80 < 90 by decide)).trans b80)).1 (hH.hp (whBk 80 200) (by simp))
      exact ⟨rfl, h.turned hil hok (enN_snoc _ hE.ne p) hH.only hM hB⟩
    | true =>
      rw [hd, if_pos rfl] at ha
      rw [ha]
      refine in_head h hp I fun ρ I β a w1 h0 h2 M => ?_
      obtain ⟨β2, b2, b80, M2⟩ := in_focus h I hi rfl h0 h2 M (c := cxA3) (by
        obtain ⟨x0, x1⟩ := I.bdsA hp hl h.ok.l8 hi
        refine cxP ⟨x0, ?_, x1⟩ trivial
        show (0 : Int) ≤ ρ.i 210 ∧ ρ.i 210 ≤ 4000
        have e : ρ.i 210 = enOf ((es.getD i (0, [])).2 ++ [p]) := I.B.i10
        have b := en_bd hG.row
        unfold dnB at hd
        rw [Bool.and_eq_true, decide_eq_true_eq] at hd
        have := hd.1
        omega)
      refine tail_fin (B := ⟨ρ, onB m (bs.getD i 0), w, β2, 90⟩) (sp := [ptSp true, dnSp true]) (lim := 10) (fuel := 400) I.good (spY I true hd) in_A3 ⟨?_, trivial⟩ M2
      intro _ β3 w3 hH
      have hM : MapT w3 (β3 2) nmLv true .ptr (mpR (bs.eraseIdx i) (es.eraseIdx i)) := hmapT (I.del hl hi) (hH.hp (mpB delT) (by simp))
      rw [show β3 2 = m from (hH.old 2 (show 2 < 90 by decide)).trans b2] at hM
      refine ⟨?_, h.erased hil hH.only hM⟩
      show Value.tuple #[.agg (denL ρ β3 ouC).toArray, .bool true, .int .i64 0] = _
      rw [out_den I]
      rfl
/-- It is not there. -/
theorem InI.bdsB (I : InI p bs es eA eB ρ) (hp : TbP p) (hl : bs.length = es.length) (h8 : es.length ≤ 8) (hi : ixN (nameOf p) es = none) (lo hi' : Int) (hb : lo ≤ (es.length : Int) ∧ (es.length : Int) ≤ hi') : bdsP ρ (⟨ixT, -1, -1⟩ :: ⟨tlen (.cv 1), lo, hi'⟩ :: tBs) := by
  refine ⟨?_, ?_, hp.bds I (by rw [mpR_len hl]; exact h8)⟩
  · show (-1 : Int) ≤ (den ρ ixT).i ∧ (den ρ ixT).i ≤ -1
    have h := I.ix hl
    rw [hi] at h
    change (den ρ ixT).i = -1 at h
    omega
  · show lo ≤ ((ρ.c 1).length : Int) ∧ ((ρ.c 1).length : Int) ≤ hi'
    rw [I.c1, mpR_len hl]
    exact hb
theorem in_full (h : FrT w g m bs es) (hp : TbP p) (hi : ixN (nameOf p) es = none) (h8 : es.length = 8) : Calls Try.prog 8 #[.pointer (some ⟨g, 0, none⟩), .agg p.toArray] w (RetP fun v w' => v = ansV (tbA es p) ∧ FrGo w w' g m bs (tbA es p).es) := by
  have hl := h.len
  have ha : tbA es p = ⟨noPk, false, 9, es⟩ := by unfold tbA; rw [hi]; exact if_pos h8
  rw [ha]
  have I := inEnv_I (bs := bs) (es := es) (eA := (0, [])) (eB := (0, [])) hp.ok GL.nil GL.nil
  refine in_head h hp I fun ρ I β a w1 h0 h2 M => ?_
  have M2 := Go.Proofs.Ytnmfmjlpfhdgeaa.Md.cxTo (Go.Proofs.Ytnmfmjlpfhdgeaa.Md.anyS M (fun _ q => q) 80) cxB1 (cxP (I.bdsB hp hl h.ok.l8 hi 8 8 (by omega)) trivial)
  refine tail_fin (B := ⟨ρ, fun i => i = m, w, β, 80⟩) (sp := []) (lim := 10) (fuel := 400) I.good (fun q hq => by cases hq) in_B ⟨?_, trivial⟩ M2
  intro _ β3 w3 hH
  have hM : MapT w3 (β3 2) nmLv true .ptr (ρ.c 1) := hH.hp (mpB (.cv 1)) (by simp)
  rw [show β3 2 = m from (hH.old 2 (show 2 < 80 by decide)).trans h2, I.c1] at hM
  exact ⟨rfl, h.same hH.only hM⟩
theorem flat_const (v : Value) (f : Nat → Value) (h : ∀ j, f j = v) : (rowsF f).flatten = List.replicate 4000 v := by
  unfold rowsF
  rw [show f = fun _ => v from funext h]
  induction 4000 with
  | zero => rfl
  | succ n ih => rw [List.range_succ, List.map_append, List.flatten_append, ih, List.replicate_succ']; rfl
theorem big_den (ρ : Env) (β : Bn) : denL ρ β bigC = whV 0 [] := by
  unfold bigC whV byT hsT
  have e1 : (rowsF fun j => Value.int .u8 (byAt [] (j : Int))).flatten = List.replicate 4000 (.int .u8 0) := flat_const _ _ fun j => rfl
  have e2 : (rowsF fun j => Value.bool (hsAt [] (j : Int))).flatten = List.replicate 4000 (.bool false) := flat_const _ _ fun j => rfl
  rw [e1, e2]
  show List.map _ (_ ++ (_ ++ _)) = _
  rw [List.map_append, List.map_append, List.map_replicate, List.map_replicate]
  rfl
set_option maxRecDepth 100000 in
set_option maxHeartbeats 1000000 in
theorem in_room (h : FrT w g m bs es) (hp : TbP p) (hi : ixN (nameOf p) es = none) (h8 : es.length ≠ 8) : Calls Try.prog 8 #[.pointer (some ⟨g, 0, none⟩), .agg p.toArray] w (RetP fun v w' => v = ansV (tbA es p) ∧ FrGo w w' g m bs (tbA es p).es) := by
  have hl := h.len
  have hl8 := h.ok.l8
  have hok := h.ok.tbA hp
  have ha : tbA es p = ⟨noPk, false, 0, es ++ [(0, [p])]⟩ := by unfold tbA; rw [hi]; exact if_neg h8
  rw [ha] at hok ⊢
  obtain ⟨hG, hd⟩ := hp.new
  have I := inEnv_I (bs := bs) (es := es) (eA := (0, [])) (eB := (0, [p])) hp.ok GL.nil hG
  refine in_head h hp I fun ρ I β a w1 h0 h2 M => ?_
  have hbd := I.bdsB hp hl h.ok.l8 hi 0 7 (by omega)
  have hc : cxB2.ok ρ := cxP hbd trivial
  have M2 : Md ρ (fun i => i = m) w β 80 (inSB Try.prog Try.f8 cxB2) β a w1 := Go.Proofs.Ytnmfmjlpfhdgeaa.Md.cxTo (Go.Proofs.Ytnmfmjlpfhdgeaa.Md.anyS M (fun _ q => q) 80) cxB2 hc
  refine part_pre (B := ⟨ρ, fun i => i = m, w, β, 80⟩) (sp := []) I.good (fun q hq => by cases hq) rfl (p := [1, 0, 1]) (c := inC Try.f8) (r := inB1 Try.prog Try.f8) rfl in_B1 ⟨?_, trivial⟩ M2
  intro _ β4 a4 w4 M4
  obtain ⟨x, a', b', e1, e2, e3⟩ := in_cond
  show (Sy.sub [1, 0, 1] (inC Try.f8)).wp Try.prog _ a4 w4
  rw [e1]
  refine cond_wp (S := fun i => i = m) (w0 := w) (β0 := β) (n0 := 80) M4 e3 (fun _ => ?_) (fun e => by cases e)
  rw [e2]
  refine part_pre (B := ⟨ρ, fun i => i = m, w, β, 80⟩) (sp := []) I.good (fun q hq => by cases hq) rfl (p := [1, 1]) (c := inX Try.f8) (r := inB2 Try.prog Try.f8) rfl in_B2 ⟨?_, trivial⟩ M4
  intro _ β5 a5 w5 M5
  have I1 : ∀ u, InI p bs es (0, []) (0, [p]) { ρ.sub β5 [] with u := u } := fun u => ⟨I.good, I.p20, I.c1, ⟨I.A.f, I.A.i10, I.A.i11, I.A.b12, I.A.i13, I.A.c1, I.A.c2⟩, ⟨I.B.f, I.B.i10, I.B.i11, I.B.b12, I.B.i13, I.B.c1, I.B.c2⟩⟩
  obtain ⟨u, β6, M6⟩ := Sy.Md.enter M5 in_m3 fun u => cxP ((I1 u).bdsB hp hl h.ok.l8 hi 0 7 (by omega)) trivial
  have I6 := I1 u
  clear I1
  generalize ({ ρ.sub β5 [] with u := u } : Env) = ρ6 at M6 I6
  clear M5 M4 M2 M
  have hhp := sameH_eq in_hp3
  have htm := in_tm3
  obtain ⟨hlow, hfr⟩ := Prod.mk.inj in_low3
  obtain ⟨hf2, hf3⟩ := Prod.mk.inj hfr
  have b2 : β6 2 = m := (M6.old 2 (show 2 < 80 by decide)).trans h2
  have hbig : bigB ∈ (inT3 Try.prog Try.f8).hp := by rw [hhp]; exact List.mem_cons_self ..
  have hfresh : w.heap.size ≤ β6 94 := by
    rcases M6.may0 bigB hbig rfl (.inl rfl) with q | q
    · exact absurd (q.trans b2.symm) (M6.neq bigB hbig (mpB (.cv 1)) (by rw [hhp]; simp) (by decide) (.inl rfl) (.inl rfl))
    · exact q
  have hB0 : Blk w5 (β6 94) 60 (whV 0 []) := by
    have := M6.hp bigB hbig
    have : Blk w5 (β6 94) 60 (denL ρ6 β6 bigC) := this
    rw [big_den] at this
    exact this
  have M7 := Go.Proofs.Ytnmfmjlpfhdgeaa.Md.reBk M6 (b := bigB) (b' := whBk 94 100) hbig rfl (fun _ => rfl) rfl rfl rfl rfl ((I6.A.bk (n := 94) (g := β6 94) rfl).2 hB0)
  have hin : ∀ b, b ∈ (inT3a Try.prog Try.f8).hp → b ∈ replHp (whBk 94 100) (inT3 Try.prog Try.f8).hp := fun b hb => by rw [hhp]; exact hb
  have M7a : Md ρ6 (fun i => i = m) w β 80 (inT3a Try.prog Try.f8) β6 a5 w5 := ⟨M7.act, fun b hb => M7.hp b (hin b hb), fun x hx y hy => M7.ne x (hin x hx) y (hin y hy), fun b hb => M7.may b (hin b hb), M7.cx, M7.only, M7.old⟩
  have M8 := Sy.Md.hi M7a 300 [.int .i64 ((β6 94 : Nat) : Int)] hlow
  have I8 : InI p bs es (0, []) (0, [p]) (ρ6.hi 300 [.int .i64 ((β6 94 : Nat) : Int)]) := ⟨I6.good, I6.p20, I6.c1, ⟨I6.A.f, I6.A.i10, I6.A.i11, I6.A.b12, I6.A.i13, I6.A.c1, I6.A.c2⟩, ⟨I6.B.f, I6.B.i10, I6.B.i11, I6.B.b12, I6.B.i13, I6.B.c1, I6.B.c2⟩⟩
  have i300 : (ρ6.hi 300 [.int .i64 ((β6 94 : Nat) : Int)]).i 300 = ((β6 94 : Nat) : Int) := rfl
  generalize ρ6.hi 300 [.int .i64 ((β6 94 : Nat) : Int)] = ρ8 at M8 I8 i300
  clear M7
  have M9 := Go.Proofs.Ytnmfmjlpfhdgeaa.Md.retell M8 10 (.one (.c (.ptv (.iv 300)))) (by
    show Value.pointer (some ⟨(ρ8.i 300).toNat, 0, none⟩) = ((inT3 Try.prog Try.f8).tm.getD 10 undS).den ρ8 β6
    rw [htm, i300, Int.toNat_natCast]
    rfl)
  have M9 : Md ρ8 (fun i => i = m) w β 80 (inT3b Try.prog Try.f8) β6 a5 w5 := M9
  have M10 := Sy.Md.letter M9 122 0 0 (show 80 ≤ 122 by decide) hf2 hf3
  obtain ⟨β7, hβ7⟩ : ∃ β7, upd (upd β6 122 0) (122 + 1) 0 = β7 := ⟨_, rfl⟩
  rw [hβ7] at M10
  have old7 : ∀ l, l < 122 → β7 l = β6 l := fun l hl => by rw [← hβ7, upd_old (by omega), upd_old (by omega)]
  have z7 : β7 123 = 0 := by rw [← hβ7]; exact upd_new ..
  have M11 := Sy.Md.addBk M10 ⟨122, 0, [.ptr 94 0], false, none, .al (.iv 300)⟩ (by
    show β7 123 = 0 ∧ (denL ρ8 β7 [.ptr 94 0] = _ ∨ _)
    refine ⟨z7, .inl ?_⟩
    show [Value.pointer (some ⟨β7 94, 0, none⟩)] = [.pointer (some ⟨(ρ8.i 300).toNat, 0, none⟩)]
    rw [old7 94 (by decide), i300, Int.toNat_natCast]) (fun x _ _ hr => absurd z7 (hr.resolve_left (by simp [Bk.nilable, Xt.isAl]))) (fun q => by cases q)
  have M12 : Md ρ8 (fun i => i = m) w β7 124 (inT4 Try.prog Try.f8) β7 a5 w5 := Go.Proofs.Ytnmfmjlpfhdgeaa.Md.anyS M11 (fun _ q => q) 124
  show (Sy.sub [1, 1] (inX Try.f8)).wp Try.prog _ a5 w5
  refine part_wp (B := ⟨ρ8, fun i => i = m, w, β7, 124⟩) (sp := []) I8.good (fun q hq => by cases hq) rfl (r := inB3 Try.prog Try.f8) rfl in_B3 ⟨?_, trivial⟩ M12
  intro _ β9 a9 w9 M13
  show (Sy.sub [1, 1] (inC Try.f8)).wp Try.prog _ a9 w9
  refine tail_fin (B := ⟨ρ8, fun i => i = m, w, β7, 124⟩) (sp := [ptSp true, dnSp false]) (lim := 10) (fuel := 400) I8.good (fun q hq => ?_) in_B4 ⟨?_, trivial⟩ M13
  · simp only [List.mem_cons, List.not_mem_nil, or_false] at hq
    rcases hq with rfl | rfl
    · have := ptSp_ok (ρ := ρ8) (e := (0, [])) (p := p) I8.A (fun _ => I8.B) GL.nil hp.row I8.p20 (pk_n hp.ok I8.p20).a27
      exact this
    · rw [← hd]
      exact dnSp_ok (ρ := ρ8) (e := (0, [p])) I8.B hG
  · intro _ βf w3 hH
    have f2 : βf 2 = m := (hH.old 2 (show 2 < 124 by decide)).trans ((old7 2 (by decide)).trans b2)
    have f94 : βf 94 = β6 94 := (hH.old 94 (show 94 < 124 by decide)).trans (old7 94 (by decide))
    have hputT : (den ρ8 putT).c = mpR (bs ++ [β6 94]) (es ++ [(0, [p])]) := by
      show mPut 4 [.int .u32 (ρ8.i 20), .int .u32 (ρ8.i 21), .int .i64 (ρ8.i 22), .int .i64 (ρ8.i 24), .pointer (some ⟨(ρ8.i 300).toNat, 0, none⟩)] (ρ8.c 1) = _
      have e : [Value.int .u32 (ρ8.i 20), .int .u32 (ρ8.i 21), .int .i64 (ρ8.i 22), .int .i64 (ρ8.i 24), .pointer (some ⟨(ρ8.i 300).toNat, 0, none⟩)] = enN ((0 : Int), [p]) ++ [ptv (β6 94)] := by
        have q := I8.p20 fun _ => 0
        show _ = nameOf p ++ [ptv (β6 94)]
        rw [← q, i300, Int.toNat_natCast]
        rfl
      rw [e, I8.c1]
      exact mpR_put hl (e := (0, [p])) (β6 94) hi
    have hM : MapT w3 (βf 2) nmLv true .ptr (den ρ8 putT).c := hH.hp (mpB putT) (by simp)
    rw [f2, hputT] at hM
    have hB := (I8.B.bk (n := 94) (g := β6 94) (w := w3) (β := βf) f94).1 (hH.hp (whBk 94 200) (by simp))
    exact ⟨rfl, h.more hok hfresh hH.only hM hB⟩
/-- In. -/
theorem in_calls (h : FrT w g m bs es) (hk : kAll pkLv p) : Calls Try.prog 8 #[.pointer (some ⟨g, 0, none⟩), .agg p.toArray] w (RetP fun v w' => v = ansV (inA' es p) ∧ FrGo w w' g m bs (inA' es p).es) := by
  cases hT : isT p with
  | false => exact in_H h hk hT
  | true =>
    have hp := isT_ok hk hT
    have ha : inA' es p = tbA es p := by unfold inA'; rw [hT]; rfl
    rw [ha]
    cases hi : ixN (nameOf p) es with
    | some i => exact in_some h hp hi
    | none =>
      by_cases h8 : es.length = 8
      · exact in_full h hp hi h8
      · exact in_room h hp hi h8
end
end Go.Proofs.Ytnmfmjlpfhdgeaa
