/- Fragments: the document's In: from the place in the list on. -/
import Derived.Test.YtnmfmjlpfhdgeaaFragH
namespace Go.Proofs.Ytnmfmjlpfhdgeaa
open Go.RowKit Sy
set_option linter.unusedVariables false
set_option linter.unusedSimpArgs false

theorem slV_slt (g c n : Nat) : slV (sltV g c n) = sltV g c n := by
  unfold sltV
  split <;> rfl
/-- An alias for a table's slice, at a new letter. -/
theorem Md.addAl {ρ : Env} {S : Nat → Prop} {w0 w : World} {β0 β : Bn} {n0 : Nat} {s : Sy.St} {a : Act} (hM : Md ρ S w0 β0 n0 s β a w) (n : Nat) (hn : n0 ≤ n) (h2 : s.free n = true) (h3 : s.free (n + 1) = true) {m q : Nat} (hm : m + 1 < n) {len t : Tm} (h : mkV .sls (den ρ t) = sltV (β m) (β (m + 1)) (den ρ len).i.toNat) :
    ∃ β', Md ρ S w0 β0 n0 { s with hp := ⟨n, 0, [.slt m q (.il 0) len (.il 0)], false, none, .al t⟩ :: s.hp } β' a w ∧ ∀ l, l < n → β' l = β l := by
  have M1 := Sy.Md.letter hM n 0 0 hn h2 h3
  obtain ⟨β1, hβ1⟩ : ∃ β1, upd (upd β n 0) (n + 1) 0 = β1 := ⟨_, rfl⟩
  rw [hβ1] at M1
  have e3 : β1 (n + 1) = 0 := by rw [← hβ1, upd_new]
  have old : ∀ l, l < n → β1 l = β l := fun l hl => by rw [← hβ1, upd_old (by omega), upd_old (by omega)]
  have hnr : ¬ Bk.real β1 ⟨n, 0, [.slt m q (.il 0) len (.il 0)], false, none, .al t⟩ := fun hr => by
    rcases hr with hr | hr
    · cases hr
    · exact hr e3
  refine ⟨β1, Sy.Md.addBk M1 _ ?_ (fun x hx _ hr => absurd hr hnr) (fun h => by cases h), old⟩
  show β1 (n + 1) = 0 ∧ (_ ∨ denL ρ β1 [.slt m q (.il 0) len (.il 0)] = [mkV .sls (den ρ t)])
  refine ⟨e3, .inr ?_⟩
  show [sltZ (β1 m) (β1 (m + 1)) q 0 (den ρ len).i.toNat 0] = _
  rw [sltZ_zero, old m (by omega), old (m + 1) hm, h]
theorem lkS_den {ρ : Env} {T : Rws} {g c n : Nat} {x : Value} (h0 : ρ.c 0 = T) (hk : T.getD (ρ.i 40).toNat [] = [sltV g c n, x]) : mkV .sls (den ρ lkS) = sltV g c n := by
  show slV (slV (((ρ.c 0).getD (ρ.i 40).toNat []).getD 0 (.bool false))) = _
  rw [h0, hk]
  show slV (slV (sltV g c n)) = _
  rw [slV_slt, slV_slt]
def rfG (p : List Value) (l : Rws) : Dn → Dn → Dn → Dn := fun _ y _ => dI (if fgt p (l.getD y.i.toNat []) then 1 else 0)
def rfV : Dn → Dn → Dn → Dn := fun x y z => dC [[sltV x.i.toNat y.i.toNat z.i.toNat]]
/-- What is known at the place. -/
structure RfA (p : List Value) (l T : Rws) (k : Nat) (ρ : Env) : Prop where
  good : ρ.good
  p20 : ∀ β, denL ρ β (pkC 20) = p
  c0 : ρ.c 0 = T
  c3 : ρ.c 3 = l
  i40 : ρ.i 40 = (k : Int)
  f61 : ρ.f 61 = rfG p l
  f62 : ρ.f 62 = rfV
structure RfY (p : List Value) (l T : Rws) (k : Nat) : Prop where
  hp : TbP p
  gl : GL l
  l1 : l.length < 1099511627776
  k1 : k < T.length
  t8 : T.length ≤ 8
  ok : ∀ r ∈ T, kAll rLv r
structure RfF (p : List Value) (l T : Rws) (k : Nat) (ρ : Env) : Prop extends RfA p l T k ρ where
  h0 : 0 ≤ ρ.i 41
  h1 : ρ.i 41 ≤ l.length
  no : ∀ j : Nat, (j : Int) < ρ.i 41 → fgt p (l.getD j []) = false
def ansF : Value := .tuple #[.agg noPk.toArray, .bool false, .int .i64 4]
section
variable {p : List Value} {l T : Rws} {k : Nat} {ρ : Env} {S : Nat → Prop} {w0 w : World} {β0 β : Bn} {a : Act} {R : Value → World → Prop}
theorem RfA.bds (Y : RfY p l T k) (E : RfA p l T k ρ) : bdsP ρ bs9 := by
  have h1 := Y.k1
  have h2 := Y.t8
  have h4 := Y.l1
  refine ⟨?_, ?_, ?_, tb_bds Y.hp E.p20⟩
  · show (0 : Int) ≤ ρ.i 40 ∧ ρ.i 40 ≤ 7
    rw [E.i40]; omega
  · show (0 : Int) ≤ ((ρ.c 3).length : Int) ∧ ((ρ.c 3).length : Int) ≤ 1099511627776
    rw [E.c3]; omega
  · show (1 : Int) ≤ ((ρ.c 0).length : Int) ∧ ((ρ.c 0).length : Int) ≤ 8
    rw [E.c0]; omega
theorem RfA.lt (Y : RfY p l T k) (E : RfA p l T k ρ) : pcs ρ [.lt (.iv 40) (tlen (.cv 0))] := by
  refine ⟨?_, trivial⟩
  rw [t_lt]
  show ρ.i 40 < ((ρ.c 0).length : Int)
  have h1 := Y.k1
  rw [E.c0, E.i40]; omega
theorem RfA.cut (Y : RfY p l T k) (E : RfA p l T k ρ) : (den ρ cutA).c = (T.drop (k + 1)).take (T.length - (k + 1)) := by
  have h1 := Y.k1
  show ((ρ.c 0).drop (ρ.i 40 + 1).toNat).take ((ρ.i 40 + (((ρ.c 0).length : Int) - (ρ.i 40 + 1)) + 1).toNat - (ρ.i 40 + 1).toNat) = _
  rw [E.i40, E.c0, show ((k : Int) + 1).toNat = k + 1 by omega, show ((k : Int) + ((T.length : Int) - ((k : Int) + 1)) + 1).toNat = T.length by omega]
theorem RfF.cx (Y : RfY p l T k) (I : RfF p l T k ρ) : rT9.cx.ok ρ := by
  have h1 := Y.k1
  have h2 := Y.t8
  have h4 := Y.l1
  have E := I.toRfA
  have g0 := I.h0
  have g1 := I.h1
  have e40 := E.i40
  have hlen : ((ρ.c 0).length : Int) = (T.length : Int) := by rw [E.c0]
  have hcut : (((den ρ cutA).c.length : Nat) : Int) = (T.length : Int) - ((k : Int) + 1) := by
    rw [E.cut Y, List.length_take, List.length_drop]; omega
  refine cxP ⟨?_, ?_, E.bds Y⟩ ⟨?_, ?_, ?_, ?_, ?_, E.lt Y⟩
  · show (0 : Int) ≤ ρ.i 41 ∧ ρ.i 41 ≤ 1099511627776
    omega
  · show (0 : Int) ≤ ((ρ.c 0).length : Int) - (ρ.i 40 + 1) ∧ ((ρ.c 0).length : Int) - (ρ.i 40 + 1) ≤ 8
    omega
  · rw [t_le]
    show ρ.i 41 ≤ ((ρ.c 3).length : Int)
    rw [E.c3]; exact g1
  · rw [t_le]
    show (ρ.i 40 + (((den ρ cutA).c.length : Nat) : Int)) * 32 ≤ 140737488355328
    omega
  · rw [t_le]
    show ρ.i 40 + (((ρ.c 0).length : Int) - (ρ.i 40 + 1)) + 1 ≤ ((ρ.c 0).length : Int)
    omega
  · rw [t_le]
    show ρ.i 40 + 1 ≤ ((ρ.c 0).length : Int)
    omega
  · rw [t_le]
    show ρ.i 40 ≤ ((ρ.c 0).length : Int)
    omega
theorem RfF.fg (I : RfF p l T k ρ) : (den ρ fgT).b = fgt p (l.getD (ρ.i 41).toNat []) := by
  have e : (den ρ (.ap 61 (.il 0) (.iv 41) (.il 0))).i = (ρ.f 61 (dI 0) (dI (ρ.i 41)) (dI 0)).i := rfl
  have e1 : (ρ.f 61 (dI 0) (dI (ρ.i 41)) (dI 0)).i = (rfG p l (dI 0) (dI (ρ.i 41)) (dI 0)).i := congrArg (fun f : Dn → Dn → Dn → Dn => (f (dI 0) (dI (ρ.i 41)) (dI 0)).i) I.f61
  rw [e1] at e
  unfold rfG dI at e
  simp only at e
  have h1 : (den ρ (.il 1)).i = 1 := rfl
  have h : (den ρ fgT).b = true ↔ (den ρ (.ap 61 (.il 0) (.iv 41) (.il 0))).i = (den ρ (.il 1)).i := by
    unfold fgT
    exact iff_of_eq (t_eq ..)
  rw [e, h1] at h
  generalize fgt p (l.getD (ρ.i 41).toNat []) = b at h ⊢
  generalize (den ρ fgT).b = c at h ⊢
  cases b <;> cases c <;> simp_all
set_option maxRecDepth 100000 in
theorem fiSp_ok (Y : RfY p l T k) (I : RfF p l T k ρ) : fiSp.Ok Try.prog ρ := by
  refine pureSpec_ok fun c xs m v bs hc hpre hres hm => ?_
  split at hres
  · rename_i q
    rw [if_pos q] at hpre
    injection hpre with hpre
    injection hres with hres
    injection hres with h1 h2
    subst h1 h2 hpre
    have hx := sameT_eq q
    subst hx
    have hlt := need_ok hc hm
    rw [t_lt] at hlt
    change ρ.i 41 < ((ρ.c 3).length : Int) at hlt
    rw [I.c3] at hlt
    have h0 := I.h0
    have hq : l.getD (ρ.i 41).toNat [] ∈ l := q_mem (by omega)
    have hrow := Y.gl.row _ hq
    refine ⟨fun x hx => (by cases hx), fun β w => ?_⟩
    have e1 : ([SV.one (.agg (pkC 20)), SV.one (.agg (rwC (.cv 3) (.iv 41)))].map (SV.den ρ β)).toArray = #[.agg p.toArray, .agg (l.getD (ρ.i 41).toNat []).toArray] := by
      show #[Value.agg (denL ρ β (pkC 20)).toArray, .agg (rwV ((ρ.c 3).getD (ρ.i 41).toNat [])).toArray] = _
      rw [I.p20, I.c3, rw_den hrow.ok]
    rw [e1]
    refine (fights_calls Y.hp.row hrow).mono ?_
    rintro e w' ⟨v, rfl, rfl, hb⟩
    refine ⟨?_, hb⟩
    show Ending.returned (Value.bool (fgt p (l.getD (ρ.i 41).toNat []))) = .returned (.bool (den ρ fgT).b)
    rw [I.fg]
  · cases hres
set_option maxRecDepth 100000 in
theorem rf_fr8 : ((rT8 (tlen (.cv 0))).free 130, (rT8 (tlen (.cv 0))).free 131, (rT8 (tlen (.cv 0))).free 132, (rT8 (tlen (.cv 0))).free 133) = (true, true, true, true) := by kernel_rfl
set_option maxRecDepth 100000 in
theorem rf_fr10 : (({ rT10 with hp := rT10.hp.drop 1, cx := ⟨[], []⟩ } : Sy.St).free 152, ({ rT10 with hp := rT10.hp.drop 1, cx := ⟨[], []⟩ } : Sy.St).free 153) = (true, true) := by kernel_rfl
set_option maxRecDepth 100000 in
theorem rf_lo26 : lowSt 300 { rT26 (sl12 (.iv 42)) with cx := ⟨[], []⟩ } = true := by kernel_rfl
set_option maxRecDepth 100000 in
theorem rf_tm26 : (({ rT26 (sl12 (.iv 42)) with cx := ⟨[], []⟩ } : Sy.St).tm.getD 12 undS, ({ rT26 (sl12 (.iv 42)) with cx := ⟨[], []⟩ } : Sy.St).tm.set 12 vl12) = (sl12 (.iv 42), (rT26 vl12).tm) := by kernel_rfl
set_option maxRecDepth 100000 in
theorem rf_tm27 : ((tmL 228 ((12, vl12) :: vs8)).getD 12 undS, (tmL 228 ((12, vl12) :: vs8)).set 12 (sl12 (tlen (.cv 4)))) = (vl12, tmL 228 vs12) := by kernel_rfl
/-- From behind the fights on. -/
def RfEnd (p : List Value) (l T : Rws) (k : Nat) (age : Int) (S : Nat → Prop) (w0 : World) (u : Nat) (R : Value → World → Prop) : Prop :=
  ∀ (v : Value) (w' : World) (g cap : Nat) (rows : Rws) (gl cl : Nat), Only S w0 w' → Blk w' u 28 [sltV g cap rows.length] → RowT w' g cap 64 rLv rows → (cap ≠ 0 → S g ∨ w0.heap.size ≤ g) → (cl ≠ 0 → S gl ∨ w0.heap.size ≤ gl) →
    ((dnB (l ++ [p]) = false ∧ v = ansN ∧ rows = T.set k [sltV gl cl (l.length + 1), .int .i64 age] ∧ RowT w' gl cl 35 pkLv (l ++ [p])) ∨ (dnB (l ++ [p]) = true ∧ v = ansY (l ++ [p]) ∧ rows = T.eraseIdx k)) → R v w'
set_option maxRecDepth 100000 in
set_option maxHeartbeats 2000000 in
theorem rf_put (Y : RfY p l T k) (E : RfA p l T k ρ) (hany : l.any (fgt p) = false) {g c : Nat} {age : Int} (hk : T.getD k [] = [sltV g c l.length, .int .i64 age]) (hg130 : β0 130 = g) (hc131 : β0 131 = c)
    (hR : RfEnd p l T k age S w0 (β0 0) R) (M : Md ρ S w0 β0 134 { rT10 with hp := rT10.hp.drop 1, cx := ⟨[], []⟩ } β a w) : (rC10 Try.f9).wp Try.prog (bodyPost Try.prog Try.f9 (RetP R)) a w := by
  have h1 := Y.k1
  have h2 := Y.t8
  have h4 := Y.l1
  have e40 := E.i40
  have hk' : T.getD (ρ.i 40).toNat [] = [sltV g c l.length, .int .i64 age] := by rw [e40, Int.toNat_natCast]; exact hk
  have hrow : kAll rLv [sltV g c l.length, .int .i64 age] := by
    rw [← hk]
    refine Y.ok _ ?_
    rw [List.getD_eq_getElem?_getD, List.getElem?_eq_getElem h1]
    exact List.getElem_mem _
  obtain ⟨f0, f1⟩ := Prod.mk.inj rf_fr10
  obtain ⟨β1, M1, old1⟩ := Go.Proofs.Ytnmfmjlpfhdgeaa.Md.addAl M 152 (by decide) f0 f1 (m := 130) (q := 9) (by decide) (len := tlen (.cv 3)) (t := lkS) (by
    rw [lkS_den E.c0 hk', M.old 130 (show 130 < 134 by decide), M.old 131 (show 131 < 134 by decide), hg130, hc131]
    show sltV g c l.length = sltV g c ((ρ.c 3).length : Int).toNat
    rw [E.c3, Int.toNat_natCast])
  have M2 : Md ρ S w0 β1 154 rT10 β1 a w := Go.Proofs.Ytnmfmjlpfhdgeaa.Md.anyS (Go.Proofs.Ytnmfmjlpfhdgeaa.Md.cxTo M1 rT10.cx (cxP (E.bds Y) (E.lt Y))) (fun _ q => q) 154
  have z1 : β1 0 = β0 0 := (old1 0 (by decide)).trans (M.old 0 (by decide))
  refine part_pre (B := ⟨ρ, S, w0, β1, 154⟩) (sp := []) E.good (fun q hq => by cases hq) rfl (p := [1]) (r := rR10 Try.prog Try.f9) rfl rf_run10 ⟨?_, trivial⟩ M2
  intro _ β a w M
  show (rC26 Try.f9).wp Try.prog (bodyPost Try.prog Try.f9 (RetP R)) a w
  obtain ⟨u, β2, M3⟩ := Sy.Md.enter (M : Md ρ S w0 β1 154 (lfAt (rR10 Try.prog Try.f9) 0) β a w) rf_m10 fun u => ⟨fun _ h => (by cases h), fun _ h => (by cases h)⟩
  have z2 : β2 0 = β0 0 := (M3.old 0 (show 0 < 154 by decide)).trans z1
  obtain ⟨ρ2, hρ2⟩ : ∃ x, ({ ρ.sub β [.i 42 (.add (tlen (.cv 3)) (.il 1)), .c 4 (.tb .app (.cv 3) (.tb (.cons (.int .u32)) (.iv 20) (.tb (.cons (.int .u32)) (.iv 21) (.tb (.cons (.int .i64)) (.iv 22) (.tb (.cons (.int .i64)) (.iv 23) (.tb (.cons (.int .i64)) (.iv 24) (.tb (.cons .bool) (.bv 25) (.tb (.cons .bool) (.bv 26) (.tb (.cons (.int .i64)) (.iv 27) (.tb (.cons .str) (.sv 28) (.tb .row (.il 0) (.il 0) (.il 0)) (.il 0)) (.il 0)) (.il 0)) (.il 0)) (.il 0)) (.il 0)) (.il 0)) (.il 0)) (.il 0)) (.il 0))] with u := u } : Env) = x := ⟨_, rfl⟩
  have c4 : ρ2.c 4 = l ++ [p] := by
    rw [← hρ2]
    show ρ.c 3 ++ [denL ρ β (pkC 20)] = _
    rw [E.c3, E.p20]
  have i42 : ρ2.i 42 = (l.length : Int) + 1 := by
    rw [← hρ2]
    show ((ρ.c 3).length : Int) + 1 = _
    rw [E.c3]
  have E2 : RfA p l T k ρ2 := by rw [← hρ2]; exact ⟨E.good, E.p20, E.c0, E.c3, E.i40, E.f61, E.f62⟩
  rw [hρ2] at M3
  have M4 := Sy.Md.hi M3 300 [.int .i64 (β2 182 : Int), .int .i64 (β2 183 : Int), .int .i64 ((l.length : Int) + 1)] rf_lo26
  obtain ⟨ρ3, hρ3⟩ : ∃ x, ρ2.hi 300 [.int .i64 (β2 182 : Int), .int .i64 (β2 183 : Int), .int .i64 ((l.length : Int) + 1)] = x := ⟨_, rfl⟩
  have E3 : RfA p l T k ρ3 := by rw [← hρ3]; exact ⟨E2.good, E2.p20, E2.c0, E2.c3, E2.i40, E2.f61, E2.f62⟩
  have c43 : ρ3.c 4 = l ++ [p] := by rw [← hρ3]; exact c4
  have i423 : ρ3.i 42 = (l.length : Int) + 1 := by rw [← hρ3]; exact i42
  have vl : mkV .sls (den ρ3 vlT) = sltV (β2 182) (β2 183) (l.length + 1) := by
    have e300 : ρ3.i 300 = (β2 182 : Int) := by rw [← hρ3]; rfl
    have e301 : ρ3.i 301 = (β2 183 : Int) := by rw [← hρ3]; rfl
    have e302 : ρ3.i 302 = (l.length : Int) + 1 := by rw [← hρ3]; rfl
    show mkV .sls (ρ3.f 62 (dI (ρ3.i 300)) (dI (ρ3.i 301)) (dI (ρ3.i 302))) = _
    rw [E3.f62, e300, e301, e302]
    show slV (sltV (β2 182 : Int).toNat (β2 183 : Int).toNat ((l.length : Int) + 1).toNat) = _
    rw [slV_slt, Int.toNat_natCast, Int.toNat_natCast]
    congr 1
  rw [hρ3] at M4
  obtain ⟨t1, t2⟩ := Prod.mk.inj rf_tm26
  have M5 := Go.Proofs.Ytnmfmjlpfhdgeaa.Md.retell M4 12 vl12 (by
    rw [t1]
    show mkV .sls (den ρ3 vlT) = sltZ (β2 182) (β2 183) 9 0 (ρ3.i 42).toNat 0
    rw [vl, sltZ_zero, i423]
    congr 1)
  rw [t2] at M5
  have hcx26 : cx26.ok ρ3 := by
    refine cxP ⟨?_, ?_, ?_, tb_bds Y.hp E3.p20⟩ (E3.lt Y)
    · show (0 : Int) ≤ ρ3.i 40 ∧ ρ3.i 40 ≤ 7
      rw [E3.i40]; omega
    · show (1 : Int) ≤ ((ρ3.c 4).length : Int) ∧ ((ρ3.c 4).length : Int) ≤ 1099511627776
      rw [c43, List.length_append, List.length_singleton]; omega
    · show (1 : Int) ≤ ((ρ3.c 0).length : Int) ∧ ((ρ3.c 0).length : Int) ≤ 8
      rw [E3.c0]; omega
  have M6 : Md ρ3 S w0 β2 184 (rT26 vl12) β2 a w := Go.Proofs.Ytnmfmjlpfhdgeaa.Md.anyS (Go.Proofs.Ytnmfmjlpfhdgeaa.Md.cxTo M5 cx26 hcx26) (fun _ q => q) 184
  have may182 : β2 183 ≠ 0 → S (β2 182) ∨ w0.heap.size ≤ β2 182 := fun hc => M6.may (lpB (.cv 4)) (List.mem_cons_self ..) rfl (.inr hc) _ (fp_root β2 _)
  show (Code.seq (Sy.sub [0] (rC26 Try.f9)) (rC27 Try.f9)).wp Try.prog (bodyPost Try.prog Try.f9 (RetP R)) a w
  refine wp_seq ?_
  refine part_wp (B := ⟨ρ3, S, w0, β2, 184⟩) (sp := []) E3.good (fun q hq => by cases hq) rfl (r := rR26 Try.prog Try.f9) rfl rf_run26 ⟨?_, trivial⟩ M6
  intro _ β a w M
  show (rC27 Try.f9).wp Try.prog (bodyPost Try.prog Try.f9 (RetP R)) a w
  obtain ⟨u, β4, M7⟩ := Sy.Md.enter (M : Md ρ3 S w0 β2 184 (lfAt (rR26 Try.prog Try.f9) 0) β a w) rf_m26 fun u => ⟨fun _ h => (by cases h), fun _ h => (by cases h)⟩
  obtain ⟨ρ4, hρ4⟩ : ∃ x, ({ ρ3.sub β [.c 5 (.tb .set (.cv 0) (.iv 40) (.tb (.cons .sls) vlT (.tb (.cons (.int .i64)) (.tb (.get (.int .i64) 1) (.cv 0) (.iv 40) (.il 0)) (.tb .row (.il 0) (.il 0) (.il 0)) (.il 0)) (.il 0)))] with u := u } : Env) = x := ⟨_, rfl⟩
  have c5 : ρ4.c 5 = T.set k [sltV (β2 182) (β2 183) (l.length + 1), .int .i64 age] := by
    rw [← hρ4]
    show (ρ3.c 0).set (ρ3.i 40).toNat [mkV .sls (den ρ3 vlT), .int .i64 (gI .i64 ((ρ3.c 0).getD (ρ3.i 40).toNat []) 1)] = _
    rw [vl, E3.c0, E3.i40, Int.toNat_natCast, hk]
    have : gI .i64 [sltV g c l.length, .int .i64 age] 1 = age := by
      have := hrow.2.1
      have := getV_int this
      injection this
    rw [this]
  have E4 : RfE p (l ++ [p]) (T.set k [sltV (β2 182) (β2 183) (l.length + 1), .int .i64 age]) k ρ4 := ⟨by rw [← hρ4]; exact E3.good, by rw [← hρ4]; exact E3.p20, by rw [← hρ4]; exact c43, c5, by rw [← hρ4]; exact E3.i40⟩
  have c04 : ρ4.c 0 = T := by rw [← hρ4]; exact E3.c0
  have vl4 : mkV .sls (den ρ4 vlT) = sltV (β2 182) (β2 183) (l.length + 1) := by rw [← hρ4]; exact vl
  rw [hρ4] at M7
  obtain ⟨t3, t4⟩ := Prod.mk.inj rf_tm27
  have b182 : β4 182 = β2 182 := M7.old 182 (show 182 < 184 by decide)
  have b183 : β4 183 = β2 183 := M7.old 183 (show 183 < 184 by decide)
  have M8 := Go.Proofs.Ytnmfmjlpfhdgeaa.Md.retell M7 12 (sl12 (tlen (.cv 4))) (by
    show _ = SV.den ρ4 β4 ((tmL 228 ((12, vl12) :: vs8)).getD 12 undS)
    rw [t3]
    show sltZ (β4 182) (β4 183) 9 0 ((ρ4.c 4).length : Int).toNat 0 = mkV .sls (den ρ4 vlT)
    rw [vl4, sltZ_zero, E4.c4, b182, b183, Int.toNat_natCast, List.length_append, List.length_singleton])
  have X : RfX p (l ++ [p]) (T.set k [sltV (β2 182) (β2 183) (l.length + 1), .int .i64 age]) k := ⟨Y.hp, Y.gl.snoc Y.hp.row hany, by rw [List.length_append, List.length_singleton]; omega, by rw [List.length_append, List.length_singleton]; omega, by rw [List.length_set]; exact h1, by rw [List.length_set]; exact h2⟩
  have M9 := Go.Proofs.Ytnmfmjlpfhdgeaa.Md.cxTo M8 ⟨bs27, []⟩ (cxP (E4.bds X) trivial)
  have M10 : Md ρ4 S w0 β2 184 (rT27 (tlen (.cv 0))) β4 a w := by
    have := M9
    rw [show ({ tm := tmL 228 ((12, vl12) :: vs8), hp := lpB (.cv 4) :: bx4 ++ [uB 108 (tlen (.cv 0)), loB 108 (.cv 5)], cx := ⟨[], []⟩, nx := 200 } : Sy.St).tm.set 12 (sl12 (tlen (.cv 4))) = tmL 228 vs12 from t4] at this
    exact this
  have M11 := Go.Proofs.Ytnmfmjlpfhdgeaa.Md.reBk M10 (b := uB 108 (tlen (.cv 0))) (b' := uB 108 (tlen (.cv 5))) (by
    show _ ∈ lpB (.cv 4) :: bx4 ++ [uB 108 (tlen (.cv 0)), loB 108 (.cv 5)]
    exact List.mem_append_right _ (List.mem_cons_self ..)) rfl (fun _ => rfl) rfl rfl rfl rfl (by
    have hB : Blk w (β4 0) 28 [sltZ (β4 108) (β4 109) 2 0 ((ρ4.c 0).length : Int).toNat 0] := M10.hp (uB 108 (tlen (.cv 0))) (List.mem_append_right _ (List.mem_cons_self ..))
    show Blk w (β4 0) 28 [sltZ (β4 108) (β4 109) 2 0 ((ρ4.c 5).length : Int).toNat 0]
    rw [c5, List.length_set, ← c04]
    exact hB)
  have M12 : Md ρ4 S w0 β2 184 (rT27 (tlen (.cv 5))) β4 a w := M11
  refine rf_end X E4 (fun v w' g' cap rows ho hb ht hm h => ?_) M12
  rw [z2] at hb
  refine hR v w' g' cap rows (β2 182) (β2 183) ho hb ht hm may182 ?_
  rcases h with ⟨d, e1, e2, e3⟩ | ⟨d, e1, e2⟩
  · exact .inl ⟨d, e1, e2, e3⟩
  · exact .inr ⟨d, e1, by rw [e2, List.eraseIdx_set_eq]⟩
end
end Go.Proofs.Ytnmfmjlpfhdgeaa
/- Fragments: the document's In: do two fight? -/
namespace Go.Proofs.Ytnmfmjlpfhdgeaa
open Go.RowKit Sy
set_option linter.unusedVariables false
set_option linter.unusedSimpArgs false

section
variable {p : List Value} {l T : Rws} {k : Nat} {ρ : Env} {S : Nat → Prop} {w0 w : World} {β0 β : Bn} {a : Act} {R : Value → World → Prop}
def RfErr (T : Rws) (k : Nat) (S : Nat → Prop) (w0 : World) (u : Nat) (R : Value → World → Prop) : Prop :=
  ∀ (v : Value) (w' : World) (g cap : Nat) (rows : Rws), Only S w0 w' → Blk w' u 28 [sltV g cap rows.length] → RowT w' g cap 64 rLv rows → (cap ≠ 0 → S g ∨ w0.heap.size ≤ g) → v = ansF → rows = T.eraseIdx k → R v w'
set_option maxRecDepth 100000 in
set_option maxHeartbeats 2000000 in
theorem rf_mid (Y : RfY p l T k) (E : RfA p l T k ρ) {g c : Nat} {age : Int} (hk : T.getD k [] = [sltV g c l.length, .int .i64 age]) (hrow : RowT w g c 35 pkLv l) (hfr : c ≠ 0 → ¬ S g ∧ g < w0.heap.size)
    (hF : l.any (fgt p) = true → RfErr T k S w0 (β0 0) R) (hR : l.any (fgt p) = false → RfEnd p l T k age S w0 (β0 0) R) (M : Md ρ S w0 β0 130 (rT8 (tlen (.cv 0))) β a w) : (rC8 Try.f9).wp Try.prog (bodyPost Try.prog Try.f9 (RetP R)) a w := by
  have h1 := Y.k1
  have e40 := E.i40
  have hk' : T.getD (ρ.i 40).toNat [] = [sltV g c l.length, .int .i64 age] := by rw [e40, Int.toNat_natCast]; exact hk
  obtain ⟨f0, f1⟩ := Prod.mk.inj rf_fr8
  obtain ⟨f1, f2⟩ := Prod.mk.inj f1
  obtain ⟨f2, f3⟩ := Prod.mk.inj f2
  obtain ⟨β1, M1, e130, e131⟩ := Sy.Md.focusT M 130 (Nat.le_refl _) f0 f1 f2 f3 (g := g) (c := c) (ty := 35) (lv := pkLv) false (tt := .cv 3) (t := lkS) (by
    rw [lkS_den E.c0 hk']
    show sltV g c l.length = sltV g c (ρ.c 3).length
    rw [E.c3]) (by
    show RowT w g c 35 pkLv (ρ.c 3)
    rw [E.c3]; exact hrow) (fun hc x hx hr hf => by
    obtain ⟨n1, n2⟩ := hfr hc
    have hrw : x.rw = true := by
      have hx : x ∈ bx4 ++ [uB 108 (tlen (.cv 0)), loB 108 (.cv 0)] := hx
      simp only [bx4, List.cons_append, List.nil_append, List.mem_cons, List.not_mem_nil, or_false] at hx
      rcases hx with rfl | rfl | rfl | rfl | rfl | rfl <;> rfl
    rcases M.may x hx hrw hr _ hf with q | q
    · exact n1 q
    · omega) (fun h => by cases h)
  have z1 : β1 0 = β0 0 := M1.old 0 (by decide)
  have M2 : Md ρ S w0 β1 134 rS9 β1 a w := Go.Proofs.Ytnmfmjlpfhdgeaa.Md.anyS (Go.Proofs.Ytnmfmjlpfhdgeaa.Md.nxTo (Go.Proofs.Ytnmfmjlpfhdgeaa.Md.cxTo M1 ⟨bs9, [.lt (.iv 40) (tlen (.cv 0))]⟩ (cxP (E.bds Y) (E.lt Y))) 140) (fun _ q => q) 134
  refine part_pre (B := ⟨ρ, S, w0, β1, 134⟩) (sp := []) E.good (fun q hq => by cases hq) rfl (p := P9) (r := rR9 Try.prog Try.f9) rfl rf_run9 ⟨?_, trivial⟩ M2
  intro _ β a w M
  show (Sy.sub P9 (rC8 Try.f9)).wp Try.prog (ctx Try.prog P9 (rC8 Try.f9) (bodyPost Try.prog Try.f9 (RetP R))) a w
  have J : ∀ u, RfF p l T k { ρ.sub β [.i 41 (.il 0)] with u := u } := fun u => ⟨⟨E.good, E.p20, E.c0, E.c3, E.i40, E.f61, E.f62⟩, Int.le_refl _, by show (0 : Int) ≤ _; omega, fun j hj => by
    change (j : Int) < 0 at hj
    omega⟩
  obtain ⟨u, β', M'⟩ := Sy.Md.enter (M : Md ρ S w0 β1 134 (lfAt (rR9 Try.prog Try.f9) 0) β a w) rf_m9 fun u => (J u).cx Y
  rw [show Sy.sub P9 (rC8 Try.f9) = .loop (rC9 Try.f9) by kernel_rfl]
  refine loop_wp (r := rR9b Try.prog Try.f9) rfl rf_run9b (RfF p l T k) (fun ρ => l.length - (ρ.i 41).toNat) (fun ρ I => I.good) (fun ρ I q hq => by
    rw [List.mem_singleton.1 hq]; exact fiSp_ok Y I) (fun ρ I => I.cx Y) ?_ (J u) M'
  intro ρ I
  have E := I.toRfA
  have h0 := I.h0
  have hl := I.h1
  have dL : (den ρ (tlen (.cv 3))).i = (l.length : Int) := by
    show ((ρ.c 3).length : Int) = _
    rw [E.c3]
  refine ⟨?_, ?_, ?_, trivial⟩
  · intro hpc β a w' M
    have c0 := hpc.1
    have c1 := hpc.2.1
    rw [I.fg] at c0
    rw [t_lt, dL] at c1
    change ρ.i 41 < _ at c1
    have hb := rf_hp9b
    rw [Bool.and_eq_true] at hb
    refine ctx_ret (P := Try.prog) P9 (rC8 Try.f9) _ (ret_post (B := ⟨ρ, S, w0, β1, 134⟩) M (retsB_ok rf_ret9b rfl) ?_)
    have B1 : Blk w' (β 0) 28 [sltZ (β 182) (β 183) 2 0 (ρ.i 40 + (((ρ.c 0).length : Int) - (ρ.i 40 + 1))).toNat 0] := M.hp _ (has_mem hb.1)
    have B2 : RowT w' (β 182) (β 183) 64 rLv (((ρ.c 0).drop ((0 : Int)).toNat).take ((ρ.i 40).toNat - ((0 : Int)).toNat) ++ (den ρ cutA).c) := M.hp _ (has_mem hb.2)
    have e40 := E.i40
    have hlen : ((ρ.c 0).length : Int) = (T.length : Int) := by rw [E.c0]
    have er : ((ρ.c 0).drop ((0 : Int)).toNat).take ((ρ.i 40).toNat - ((0 : Int)).toNat) ++ (den ρ cutA).c = T.eraseIdx k := by
      rw [E.cut Y, E.c0, e40]
      exact drop_rows h1 rfl
    rw [er] at B2
    have el : (ρ.i 40 + (((ρ.c 0).length : Int) - (ρ.i 40 + 1))).toNat = (T.eraseIdx k).length := by
      rw [List.length_eraseIdx_of_lt h1]; omega
    rw [sltZ_zero, el, show β 0 = β1 0 from M.old 0 (show 0 < 134 by decide), z1] at B1
    have hany : l.any (fgt p) = true := List.any_eq_true.2 ⟨_, q_mem (i := (ρ.i 41).toNat) (by omega), c0⟩
    exact hF hany _ w' _ _ _ M.only B1 B2 (fun hc => M.may _ (has_mem hb.2) rfl (.inr hc) _ (fp_root β _)) rfl rfl
  · intro hpc β u
    have c0 := hpc.1
    have c1 := hpc.2.1
    rw [t_not, I.fg] at c0
    rw [t_lt, dL] at c1
    change ρ.i 41 < _ at c1
    refine ⟨⟨⟨E.good, E.p20, E.c0, E.c3, E.i40, E.f61, E.f62⟩, ?_, ?_, fun j hj => ?_⟩, ?_⟩
    · show 0 ≤ ρ.i 41 + 1
      omega
    · show ρ.i 41 + 1 ≤ _
      omega
    · change (j : Int) < ρ.i 41 + 1 at hj
      by_cases q : (j : Int) < ρ.i 41
      · exact I.no j q
      · rw [show j = (ρ.i 41).toNat by omega]
        simpa using c0
    · show l.length - (ρ.i 41 + 1).toNat < l.length - (ρ.i 41).toNat
      omega
  · intro hpc β a w' M
    have c0 := hpc.1
    rw [t_not, t_lt, dL] at c0
    change ¬ ρ.i 41 < _ at c0
    have hany : l.any (fgt p) = false := by
      cases e : l.any (fgt p) with
      | false => rfl
      | true =>
        obtain ⟨q, hq, hc⟩ := List.any_eq_true.1 e
        obtain ⟨j, hj, rfl⟩ := List.getElem_of_mem hq
        have := I.no j (by omega)
        rw [List.getD_eq_getElem?_getD, List.getElem?_eq_getElem hj] at this
        change fgt p l[j] = false at this
        rw [hc] at this
        cases this
    show (rC10 Try.f9).wp Try.prog (bodyPost Try.prog Try.f9 (RetP R)) a w'
    obtain ⟨u, β', M'⟩ := Sy.Md.enter M rf_m9b fun u => ⟨fun _ h => (by cases h), fun _ h => (by cases h)⟩
    refine rf_put (ρ := { ρ.sub β [] with u := u }) Y ⟨E.good, E.p20, E.c0, E.c3, E.i40, E.f61, E.f62⟩ hany hk e130 e131 ?_ M'
    rw [z1]
    exact hR hany
end
end Go.Proofs.Ytnmfmjlpfhdgeaa
/- Fragments: the document's In: the scan. -/
namespace Go.Proofs.Ytnmfmjlpfhdgeaa
open Go.RowKit Sy
set_option linter.unusedVariables false
set_option linter.unusedSimpArgs false

theorem nameOf_rw {q : List Value} (h : kAll pkLv q) : nameOf q = [.int .u32 (gI .u32 q 0), .int .u32 (gI .u32 q 1), .int .i64 (gI .i64 q 2), .int .i64 (gI .i64 q 4)] := by
  conv => lhs; rw [← rw_den h]
  rfl
theorem intAt_rw {q : List Value} (h : kAll pkLv q) : intAt q 0 = gI .u32 q 0 ∧ intAt q 1 = gI .u32 q 1 ∧ intAt q 2 = gI .i64 q 2 ∧ intAt q 4 = gI .i64 q 4 := by
  have key : ∀ r, r = q → intAt (rwV r) 0 = gI .u32 q 0 ∧ intAt (rwV r) 1 = gI .u32 q 1 ∧ intAt (rwV r) 2 = gI .i64 q 2 ∧ intAt (rwV r) 4 = gI .i64 q 4 := fun r e => by subst e; exact ⟨rfl, rfl, rfl, rfl⟩
  have := key q rfl
  rw [rw_den h] at this
  exact this
theorem nm_iff {q p : List Value} (hq : kAll pkLv q) (hp : kAll pkLv p) : nameOf q = nameOf p ↔ gI .u32 q 0 = intAt p 0 ∧ gI .u32 q 1 = intAt p 1 ∧ gI .i64 q 2 = intAt p 2 ∧ gI .i64 q 4 = intAt p 4 := by
  obtain ⟨a0, a1, a2, a4⟩ := intAt_rw hp
  rw [nameOf_rw hq, nameOf_rw hp, a0, a1, a2, a4]
  simp only [List.cons.injEq, Value.int.injEq, true_and, and_true]
theorem ixN_at {k : List Value} : ∀ {es : List Ent} {i : Nat}, i < es.length → (∀ j, j < i → isN k (es.getD j (0, [])) = false) → isN k (es.getD i (0, [])) = true → ixN k es = some i
  | e :: es, 0, _, _, h => by
    show (if isN k e then some 0 else _) = _
    rw [if_pos (show isN k e = true from h)]
  | e :: es, i + 1, hi, hn, h => by
    show (if isN k e then some 0 else (ixN k es).map (· + 1)) = _
    rw [if_neg (by have := hn 0 (by omega); change isN k e = false at this; rw [this]; decide), ixN_at (es := es) (i := i) (by simpa using hi) (fun j hj => hn (j + 1) (by omega)) h]
    rfl
  | [], i, hi, _, _ => by simp at hi
theorem ixN_no {k : List Value} : ∀ {es : List Ent}, (∀ j, j < es.length → isN k (es.getD j (0, [])) = false) → ixN k es = none
  | [], _ => rfl
  | e :: es, h => by
    show (if isN k e then some 0 else (ixN k es).map (· + 1)) = _
    rw [if_neg (by have := h 0 (by simp); change isN k e = false at this; rw [this]; decide), ixN_no (es := es) fun j hj => h (j + 1) (by simp; omega)]
    rfl
/-- The list that it goes into. -/
def lOf (p : List Value) (es : List Ent) : Rws := match ixN (nameOf p) es with
  | some i => (es.getD i (0, [])).2
  | none => []
def rf60 (es : List Ent) : Dn → Dn → Dn → Dn := fun _ y _ => dC (es.getD y.i.toNat (0, [])).2
def rfEnv (p : List Value) (ls : List (Nat × Nat)) (es : List Ent) : Env := { mkEnv0 [] [] [] [] with
  i := fun n => if n < 30 then intAt p (n - 20) else 0
  b := fun n => boolAt p (n - 20)
  s := fun n => strAt p (n - 20)
  c := fun n => if n = 0 then rfR ls es else lOf p es
  f := fun n => if n = 60 then rf60 es else if n = 61 then rfG p (lOf p es) else rfV }
structure RfH (p : List Value) (ls : List (Nat × Nat)) (es : List Ent) (ρ : Env) : Prop where
  good : ρ.good
  p20 : ∀ β, denL ρ β (pkC 20) = p
  c0 : ρ.c 0 = rfR ls es
  c3 : ρ.c 3 = lOf p es
  f60 : ρ.f 60 = rf60 es
  f61 : ρ.f 61 = rfG p (lOf p es)
  f62 : ρ.f 62 = rfV
theorem rfEnv_H {p : List Value} (hk : kAll pkLv p) (ls : List (Nat × Nat)) (es : List Ent) : RfH p ls es (rfEnv p ls es) :=
  ⟨fun i => rfl, fun β => pk_den (h := 20) hk rfl rfl rfl rfl rfl rfl rfl rfl rfl β, rfl, rfl, rfl, rfl, rfl⟩
structure RfS (p : List Value) (ls : List (Nat × Nat)) (es : List Ent) (ρ : Env) : Prop extends RfH p ls es ρ where
  h0 : 0 ≤ ρ.i 40
  h1 : ρ.i 40 ≤ es.length
  no : ∀ j : Nat, (j : Int) < ρ.i 40 → isN (nameOf p) (es.getD j (0, [])) = false
def rfN (u a c : Nat) : Bn := fun l => if l = 0 then u else if l = 2 then a else if l = 3 then c else 0
def rfW (u a c : Nat) (i : Nat) : Prop := i = u ∨ (c ≠ 0 ∧ i = a)
section
variable {p : List Value} {ls : List (Nat × Nat)} {es : List Ent} {ρ : Env} {w w1 : World} {u a c : Nat} {β0 β : Bn} {A : Act} {R : Value → World → Prop}
theorem RfH.len (H : RfH p ls es ρ) (hl : ls.length = es.length) : ((ρ.c 0).length : Int) = (es.length : Int) := by rw [H.c0, rfR_len hl]
theorem RfS.bds (hp : TbP p) (I : RfS p ls es ρ) (hl : ls.length = es.length) (h8 : es.length ≤ 8) : bdsP ρ rBs := by
  refine ⟨?_, tb_bds hp I.p20⟩
  show (0 : Int) ≤ ((ρ.c 0).length : Int) ∧ ((ρ.c 0).length : Int) ≤ 8
  rw [I.len hl]; omega
theorem RfS.cx (hp : TbP p) (I : RfS p ls es ρ) (hl : ls.length = es.length) (h8 : es.length ≤ 8) : rT1.cx.ok ρ := by
  have h0 := I.h0
  have h1 := I.h1
  refine cxP ⟨by show (0 : Int) ≤ ρ.i 40 ∧ ρ.i 40 ≤ 8; omega, I.bds hp hl h8⟩ ⟨?_, trivial⟩
  rw [t_le]
  show ρ.i 40 ≤ ((ρ.c 0).length : Int)
  rw [I.len hl]; exact h1
theorem rf_init (h : RfM w u a c ls es) (H : RfH p ls es ρ) {c' : Cx} (hc : c'.ok ρ) : Md ρ (rfW u a c) w (rfN u a c) 46 (rfS c') (rfN u a c) ⟨#[], []⟩ w := by
  have hr : ∀ {β : Bn}, Bk.real β (loB 2 (.cv 0)) → β 3 ≠ 0 := fun h => h.resolve_left (by simp [loB, Bk.nilable, Xt.isTab])
  refine Sy.Md.init ⟨?_, ?_, trivial⟩ ⟨⟨fun _ q => apart.of rfl rfl (h.u_a (hr q)), trivial⟩, trivial, trivial⟩ ⟨fun _ _ i hi => .inl (fp_one rfl hi), fun _ q i hi => .inr ⟨hr q, fp_one rfl hi⟩, trivial⟩ hc rfl
  · show Blk w u 28 [sltZ a c 2 0 ((ρ.c 0).length : Int).toNat 0]
    rw [sltZ_zero, H.len h.len, Int.toNat_natCast]
    exact h.obj
  · show RowT w a c 64 rLv (ρ.c 0)
    rw [H.c0]; exact h.tab
theorem rf_free1 : (rT1.free 90, rT1.free 91, rT1.free 92, rT1.free 93) = (true, true, true, true) := by kernel_rfl
theorem rf_S (h : RfM w u a c ls es) {i : Nat} (hi : i < es.length) (h0 : (ls.getD i (0, 0)).2 ≠ 0) : ¬ rfW u a c (ls.getD i (0, 0)).1 ∧ (ls.getD i (0, 0)).1 < w.heap.size := by
  obtain ⟨n1, n2⟩ := h.l_ne hi h0
  exact ⟨fun q => q.elim n1 fun q => n2 q.1 q.2, rowT_lt (h.row i hi) h0⟩
theorem rf_row (h : RfM w u a c ls es) (ho : Only (rfW u a c) w w1) {i : Nat} (hi : i < es.length) : RowT w1 (ls.getD i (0, 0)).1 (ls.getD i (0, 0)).2 35 pkLv (es.getD i (0, [])).2 :=
  rowT_same (h.row i hi) fun h0 => by
    obtain ⟨n1, n2⟩ := rf_S h hi h0
    exact ho.block _ n2 n1
set_option maxRecDepth 100000 in
set_option maxHeartbeats 2000000 in
theorem rf_scan (h : RfM w u a c ls es) (hok : FOk es) (hb : ∀ e ∈ es, e.2.length < 1099511627776) (hp : TbP p) {Q : Exit → Act → World → Prop} (I0 : RfS p ls es ρ)
    (hQ : ∀ ρ' k, RfH p ls es ρ' → ρ'.i 40 = ((k : Nat) : Int) → ((ixN (nameOf p) es = some k) ∨ (ixN (nameOf p) es = none ∧ k = es.length)) → ∀ β A w1, Md ρ' (rfW u a c) w (rfN u a c) 46 { rT1 with cx := ⟨[], []⟩ } β A w1 → Q (.exit 0) A w1)
    (M : Md ρ (rfW u a c) w (rfN u a c) 46 rT1 β A w1) : (Code.loop (rC1 Try.f9)).wp Try.prog Q A w1 := by
  have hl := h.len
  have h8 := hok.l8
  refine loop_round (RfS p ls es) (fun ρ => es.length - (ρ.i 40).toNat) (fun ρ I β A w1 M => ?_) I0 M
  have h0 := I.h0
  have h1 := I.h1
  have H := I.toRfH
  have hlen := H.len hl
  by_cases hi : ρ.i 40 < es.length
  · have hiN : (ρ.i 40).toNat < es.length := by omega
    have hE := hok.ok _ (List.getElem_mem hiN)
    rw [← getD_at hiN] at hE
    have hbE : (es.getD (ρ.i 40).toNat (0, [])).2.length < 1099511627776 := by
      rw [getD_at hiN]; exact hb _ (List.getElem_mem hiN)
    have hne : 1 ≤ (es.getD (ρ.i 40).toNat (0, [])).2.length := by
      cases e : (es.getD (ρ.i 40).toNat (0, [])).2 with
      | nil => exact absurd e hE.ne
      | cons x l => simp
    have dl : (den ρ lkT).c = (es.getD (ρ.i 40).toNat (0, [])).2 := by
      show (ρ.f 60 (dI 0) (dI (ρ.i 40)) (dI 0)).c = _
      rw [H.f60]; rfl
    have hk : (rfR ls es).getD (ρ.i 40).toNat [] = [sltV (ls.getD (ρ.i 40).toNat (0, 0)).1 (ls.getD (ρ.i 40).toNat (0, 0)).2 (es.getD (ρ.i 40).toNat (0, [])).2.length, .int .i64 (es.getD (ρ.i 40).toNat (0, [])).1] := rfR_get hl hiN
    obtain ⟨f0, f1⟩ := Prod.mk.inj rf_free1
    obtain ⟨f1, f2⟩ := Prod.mk.inj f1
    obtain ⟨f2, f3⟩ := Prod.mk.inj f2
    obtain ⟨β1, M1, _, _⟩ := Sy.Md.focusT M 90 (by decide) f0 f1 f2 f3 (g := (ls.getD (ρ.i 40).toNat (0, 0)).1) (c := (ls.getD (ρ.i 40).toNat (0, 0)).2) (ty := 35) (lv := pkLv) false (tt := lkT) (t := lkS) (by
      rw [lkS_den H.c0 hk, dl]) (by
      rw [dl]; exact rf_row h M.only hiN) (fun hc x hx hr hf => by
      obtain ⟨n1, n2⟩ := rf_S h hiN hc
      have hrw : x.rw = true := by
        have hx : x ∈ bx4 ++ [uB 2 (tlen (.cv 0)), loB 2 (.cv 0)] := hx
        simp only [bx4, List.cons_append, List.nil_append, List.mem_cons, List.not_mem_nil, or_false] at hx
        rcases hx with rfl | rfl | rfl | rfl | rfl | rfl <;> rfl
      rcases M.may x hx hrw hr _ hf with q | q
      · exact n1 q
      · omega) (fun h => by cases h)
    have old1 : ∀ l, l < 46 → β1 l = rfN u a c l := M1.old
    have hcx : cx1F.ok ρ := by
      refine cxP ⟨?_, ?_, I.bds hp hl h8⟩ ⟨?_, trivial⟩
      · show (0 : Int) ≤ ρ.i 40 ∧ ρ.i 40 ≤ 7
        omega
      · show (1 : Int) ≤ (((den ρ lkT).c.length : Nat) : Int) ∧ (((den ρ lkT).c.length : Nat) : Int) ≤ 1099511627776
        rw [dl]; omega
      · rw [t_lt]
        show ρ.i 40 < ((ρ.c 0).length : Int)
        rw [hlen]; exact hi
    have M2 : Md ρ (rfW u a c) w β1 94 rS1F β1 A w1 := Go.Proofs.Ytnmfmjlpfhdgeaa.Md.anyS (Go.Proofs.Ytnmfmjlpfhdgeaa.Md.nxTo (Go.Proofs.Ytnmfmjlpfhdgeaa.Md.cxTo M1 cx1F hcx) 100) (fun _ q => q) 94
    have N := intAt_rw hp.ok
    have hq := hE.gl.row _ hE.head
    have nm : isN (nameOf p) (es.getD (ρ.i 40).toNat (0, [])) = true ↔ gI .u32 ((es.getD (ρ.i 40).toNat (0, [])).2.headD []) 0 = intAt p 0 ∧ gI .u32 ((es.getD (ρ.i 40).toNat (0, [])).2.headD []) 1 = intAt p 1 ∧ gI .i64 ((es.getD (ρ.i 40).toNat (0, [])).2.headD []) 2 = intAt p 2 ∧ gI .i64 ((es.getD (ρ.i 40).toNat (0, [])).2.headD []) 4 = intAt p 4 :=
      (sqR_iff hE.name (nameOf_ok hp.ok)).trans (nm_iff hq.ok hp.ok)
    have hd : ((den ρ lkT).c.getD ((0 : Int)).toNat []) = (es.getD (ρ.i 40).toNat (0, [])).2.headD [] := by
      rw [dl]
      cases (es.getD (ρ.i 40).toNat (0, [])).2 <;> rfl
    have p20 := H.p20 β
    have ei : ∀ n v, p.getD n (.bool false) = v → v = p.getD n (.bool false) := fun _ _ e => e.symm
    have i20 : ρ.i 20 = intAt p 0 := by rw [← p20]; rfl
    have i21 : ρ.i 21 = intAt p 1 := by rw [← p20]; rfl
    have i22 : ρ.i 22 = intAt p 2 := by rw [← p20]; rfl
    have i24 : ρ.i 24 = intAt p 4 := by rw [← p20]; rfl
    have d0 : (den ρ (.tb (.get (.int .u32) 0) lkT (.il 0) (.il 0))).i = gI .u32 ((es.getD (ρ.i 40).toNat (0, [])).2.headD []) 0 := by
      show gI .u32 ((den ρ lkT).c.getD ((0 : Int)).toNat []) 0 = _
      rw [hd]
    have d1 : (den ρ (.tb (.get (.int .u32) 1) lkT (.il 0) (.il 0))).i = gI .u32 ((es.getD (ρ.i 40).toNat (0, [])).2.headD []) 1 := by
      show gI .u32 ((den ρ lkT).c.getD ((0 : Int)).toNat []) 1 = _
      rw [hd]
    have d2 : (den ρ (.tb (.get (.int .i64) 2) lkT (.il 0) (.il 0))).i = gI .i64 ((es.getD (ρ.i 40).toNat (0, [])).2.headD []) 2 := by
      show gI .i64 ((den ρ lkT).c.getD ((0 : Int)).toNat []) 2 = _
      rw [hd]
    have d4 : (den ρ (.tb (.get (.int .i64) 4) lkT (.il 0) (.il 0))).i = gI .i64 ((es.getD (ρ.i 40).toNat (0, [])).2.headD []) 4 := by
      show gI .i64 ((den ρ lkT).c.getD ((0 : Int)).toNat []) 4 = _
      rw [hd]
    have next : isN (nameOf p) (es.getD (ρ.i 40).toNat (0, [])) = false → ∀ (β : Bn) v, RfS p ls es { ρ.sub β [.i 40 (.add (.iv 40) (.il 1))] with u := v } ∧ ({ ρ.sub β [.i 40 (.add (.iv 40) (.il 1))] with u := v } : Env).i 40 = ρ.i 40 + 1 := fun hno β v => by
      refine ⟨⟨⟨H.good, H.p20, H.c0, H.c3, H.f60, H.f61, H.f62⟩, ?_, ?_, fun j hj => ?_⟩, rfl⟩
      · show 0 ≤ ρ.i 40 + 1
        omega
      · show ρ.i 40 + 1 ≤ _
        omega
      · change (j : Int) < ρ.i 40 + 1 at hj
        by_cases q : (j : Int) < ρ.i 40
        · exact I.no j q
        · rw [show j = (ρ.i 40).toNat by omega]
          exact hno
    have no : ¬ (gI .u32 ((es.getD (ρ.i 40).toNat (0, [])).2.headD []) 0 = intAt p 0 ∧ gI .u32 ((es.getD (ρ.i 40).toNat (0, [])).2.headD []) 1 = intAt p 1 ∧ gI .i64 ((es.getD (ρ.i 40).toNat (0, [])).2.headD []) 2 = intAt p 2 ∧ gI .i64 ((es.getD (ρ.i 40).toNat (0, [])).2.headD []) 4 = intAt p 4) → isN (nameOf p) (es.getD (ρ.i 40).toNat (0, [])) = false := fun q => by
      cases e : isN (nameOf p) (es.getD (ρ.i 40).toNat (0, [])) with
      | false => rfl
      | true => exact absurd (nm.1 e) q
    refine seg_wp (sp := []) (T := rT1) (r := rR1F Try.prog Try.f9) rfl rf_run1F (fun ρ' => RfS p ls es ρ' ∧ ρ'.i 40 = ρ.i 40 + 1) (fun ρ' I' => I'.1.cx hp hl h8) H.good (fun q hq => by cases hq) ⟨?_, ?_, ?_, ?_, ?_, trivial⟩ (fun ρ' I' β A w1 M' => ?_) M2
    · intro hpc β v
      have c0 := hpc.1
      rw [t_not, show nmE 4 .i64 24 = .eq (.tb (.get (.int .i64) 4) lkT (.il 0) (.il 0)) (.iv 24) from rfl, t_eq, d4, i_iv, i24] at c0
      exact next (no fun q => c0 q.2.2.2) β v
    · intro hpc β' A' w1' M'
      have c4 := hpc.1
      have c2 := hpc.2.1
      have c1 := hpc.2.2.1
      have c0 := hpc.2.2.2.1
      rw [show nmE 4 .i64 24 = .eq (.tb (.get (.int .i64) 4) lkT (.il 0) (.il 0)) (.iv 24) from rfl, t_eq, d4, i_iv, i24] at c4
      rw [show nmE 2 .i64 22 = .eq (.tb (.get (.int .i64) 2) lkT (.il 0) (.il 0)) (.iv 22) from rfl, t_eq, d2, i_iv, i22] at c2
      rw [show nmE 1 .u32 21 = .eq (.tb (.get (.int .u32) 1) lkT (.il 0) (.il 0)) (.iv 21) from rfl, t_eq, d1, i_iv, i21] at c1
      rw [show nmE 0 .u32 20 = .eq (.tb (.get (.int .u32) 0) lkT (.il 0) (.il 0)) (.iv 20) from rfl, t_eq, d0, i_iv, i20] at c0
      have hN := nm.2 ⟨c0, c1, c2, c4⟩
      have hix := ixN_at hiN (fun j hj => I.no j (by omega)) hN
      have M3 : Md ρ (rfW u a c) w (rfN u a c) 46 (lfAt (rR1F Try.prog Try.f9) 1) β' A' w1' := ⟨M'.act, M'.hp, M'.ne, M'.may, M'.cx, M'.only, fun l hl => (M'.old l (Nat.lt_of_lt_of_le hl (show 46 ≤ 94 by decide))).trans (old1 l hl)⟩
      obtain ⟨v, β4, M4⟩ := Sy.Md.enter M3 rf_m1F fun u => ⟨fun _ h => (by cases h), fun _ h => (by cases h)⟩
      show Q (.exit 0) A' w1'
      exact hQ { ρ.sub β' [] with u := v } (ρ.i 40).toNat ⟨H.good, H.p20, H.c0, H.c3, H.f60, H.f61, H.f62⟩ (by show ρ.i 40 = _; omega) (.inl hix) β4 A' w1' M4
    · intro hpc β v
      have c0 := hpc.1
      rw [t_not, show nmE 2 .i64 22 = .eq (.tb (.get (.int .i64) 2) lkT (.il 0) (.il 0)) (.iv 22) from rfl, t_eq, d2, i_iv, i22] at c0
      exact next (no fun q => c0 q.2.2.1) β v
    · intro hpc β v
      have c0 := hpc.1
      rw [t_not, show nmE 1 .u32 21 = .eq (.tb (.get (.int .u32) 1) lkT (.il 0) (.il 0)) (.iv 21) from rfl, t_eq, d1, i_iv, i21] at c0
      exact next (no fun q => c0 q.2.1) β v
    · intro hpc β v
      have c0 := hpc.1
      rw [t_not, show nmE 0 .u32 20 = .eq (.tb (.get (.int .u32) 0) lkT (.il 0) (.il 0)) (.iv 20) from rfl, t_eq, d0, i_iv, i20] at c0
      exact next (no fun q => c0 q.1) β v
    · show NextR (rfW u a c) w (rfN u a c) 46 rT1 (RfS p ls es) (fun ρ => es.length - (ρ.i 40).toNat) (es.length - (ρ.i 40).toNat) A w1
      refine ⟨ρ', ?_, I'.1, β, ⟨M'.act, M'.hp, M'.ne, M'.may, M'.cx, M'.only, fun l hl => (M'.old l (Nat.lt_of_lt_of_le hl (show 46 ≤ 94 by decide))).trans (old1 l hl)⟩⟩
      show es.length - (ρ'.i 40).toNat < _
      rw [I'.2]; omega
  · have he : ρ.i 40 = es.length := by omega
    have hcx : cx1E.ok ρ := by
      refine cxP ⟨by show (0 : Int) ≤ ρ.i 40 ∧ ρ.i 40 ≤ 8; omega, I.bds hp hl h8⟩ ⟨?_, ?_, ?_, trivial⟩
      · rw [t_eq]
        show ρ.i 40 = ((ρ.c 0).length : Int)
        rw [hlen]; exact he
      · rw [t_le]
        show ρ.i 40 ≤ ((ρ.c 0).length : Int)
        rw [hlen]; omega
      · rw [t_not, t_lt]
        show ¬ ρ.i 40 < ((ρ.c 0).length : Int)
        rw [hlen]; omega
    refine part_wp (B := ⟨ρ, rfW u a c, w, rfN u a c, 46⟩) (sp := []) H.good (fun q hq => by cases hq) rfl (r := rR1E Try.prog Try.f9) rfl rf_run1E ⟨?_, trivial⟩ (Go.Proofs.Ytnmfmjlpfhdgeaa.Md.cxTo M cx1E hcx)
    intro _ β' A' w1' M'
    obtain ⟨v, β4, M4⟩ := Sy.Md.enter M' rf_m1E fun u => ⟨fun _ h => (by cases h), fun _ h => (by cases h)⟩
    show Q (.exit 0) A' w1'
    exact hQ { ρ.sub β' [] with u := v } es.length ⟨H.good, H.p20, H.c0, H.c3, H.f60, H.f61, H.f62⟩ he (.inr ⟨ixN_no fun j hj => I.no j (by omega), rfl⟩) β4 A' w1' M4
end
end Go.Proofs.Ytnmfmjlpfhdgeaa
