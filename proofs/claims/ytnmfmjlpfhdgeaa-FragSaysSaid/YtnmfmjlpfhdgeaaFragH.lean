/- Fragments: the document's In, from behind the new fragment on. -/
import Derived.Test.YtnmfmjlpfhdgeaaFragG
namespace Go.Proofs.Ytnmfmjlpfhdgeaa
open Go.RowKit Sy
set_option linter.unusedVariables false
set_option linter.unusedSimpArgs false

theorem has_mem {s : Sy.St} {b : Bk} (h : hasBk s b = true) : b ∈ s.hp := by
  unfold hasBk at h
  split at h
  · rename_i x hf
    have := sameBk_eq h
    subst this
    exact (find_mem hf).1
  · cases h
theorem tb_bds {p : List Value} {ρ : Env} (hp : TbP p) (e : ∀ β, denL ρ β (pkC 20) = p) : bdsP ρ rtBs := by
  have N := pk_n hp.ok e
  have h1 := hp.pr
  have h2 := hp.tt
  have h3 := hp.id
  have h4 := hp.of
  have h5 := hp.sz
  have h6 := hp.to
  have e6 : pTo p = 8 * pOff p + pSz p := rfl
  have z : (0 : Int) ≤ pSz p := by unfold pSz; omega
  have es28 : ((ρ.s 28).size : Int) = pSz p := by rw [N.s28]; rfl
  refine ⟨N.a20, N.a21, ?_, ?_, ?_, ?_, ?_, ?_, trivial⟩
  · show (0 : Int) ≤ ρ.i 22 ∧ ρ.i 22 ≤ 255
    rw [N.a22]; exact h1
  · show (0 : Int) ≤ ρ.i 23 ∧ ρ.i 23 ≤ 255
    rw [N.a23]; exact h2
  · show (0 : Int) ≤ ρ.i 24 ∧ ρ.i 24 ≤ 65535
    rw [N.a24]; exact h3
  · show (0 : Int) ≤ ρ.i 27 ∧ ρ.i 27 ≤ 8191
    rw [N.a27]; exact h4
  · show (0 : Int) ≤ ((ρ.s 28).size : Int) ∧ ((ρ.s 28).size : Int) ≤ 1400
    omega
  · show (0 : Int) ≤ 8 * ρ.i 27 + ((ρ.s 28).size : Int) ∧ 8 * ρ.i 27 + ((ρ.s 28).size : Int) ≤ 4000
    rw [N.a27, es28]; omega
/-! A row's cells. -/
def rwV (q : List Value) : List Value := [.int .u32 (gI .u32 q 0), .int .u32 (gI .u32 q 1), .int .i64 (gI .i64 q 2), .int .i64 (gI .i64 q 3), .int .i64 (gI .i64 q 4), .bool (gB q 5), .bool (gB q 6), .int .i64 (gI .i64 q 7), .string (gS q 8)]
theorem rw_den {q : List Value} (h : kAll pkLv q) : rwV q = q := by
  obtain ⟨v0, r0, e0, h0, t0⟩ := kAll_cons h
  obtain ⟨v1, r1, e1, h1, t1⟩ := kAll_cons t0
  obtain ⟨v2, r2, e2, h2, t2⟩ := kAll_cons t1
  obtain ⟨v3, r3, e3, h3, t3⟩ := kAll_cons t2
  obtain ⟨v4, r4, e4, h4, t4⟩ := kAll_cons t3
  obtain ⟨v5, r5, e5, h5, t5⟩ := kAll_cons t4
  obtain ⟨v6, r6, e6, h6, t6⟩ := kAll_cons t5
  obtain ⟨v7, r7, e7, h7, t7⟩ := kAll_cons t6
  obtain ⟨v8, r8, e8, h8, t8⟩ := kAll_cons t7
  have e9 := kAll_nil t8
  subst e9 e8 e7 e6 e5 e4 e3 e2 e1 e0
  show [Value.int .u32 (getV (.int .u32) v0).i, .int .u32 (getV (.int .u32) v1).i, .int .i64 (getV (.int .i64) v2).i, .int .i64 (getV (.int .i64) v3).i, .int .i64 (getV (.int .i64) v4).i, .bool (getV .bool v5).b, .bool (getV .bool v6).b, .int .i64 (getV (.int .i64) v7).i, .string (getV .str v8).s] = _
  rw [getV_int h0, getV_int h1, getV_int h2, getV_int h3, getV_int h4, getV_bool h5, getV_bool h6, getV_int h7, getV_str h8]
theorem fs_first : ∀ {l : Rws} {i : Nat}, i < l.length → pOff (l.getD i []) = 0 → (∀ j, j < i → pOff (l.getD j []) ≠ 0) → fsOf l = some (l.getD i [])
  | [], i, hi, _, _ => by simp at hi
  | q :: l, 0, _, h, _ => by
    unfold fsOf
    rw [List.find?_cons_of_pos]
    · rfl
    · exact decide_eq_true h
  | q :: l, i + 1, hi, h, hn => by
    unfold fsOf
    rw [List.find?_cons_of_neg]
    · exact fs_first (l := l) (i := i) (by simpa using hi) h fun j hj => hn (j + 1) (by omega)
    · have := hn 0 (by omega)
      simpa using this
/-! What is known. -/
structure RfX (p : List Value) (l T : Rws) (k : Nat) : Prop where
  hp : TbP p
  gl : GL l
  l0 : 0 < l.length
  l1 : l.length ≤ 1099511627776
  k1 : k < T.length
  t8 : T.length ≤ 8
structure RfE (p : List Value) (l T : Rws) (k : Nat) (ρ : Env) : Prop where
  good : ρ.good
  p20 : ∀ β, denL ρ β (pkC 20) = p
  c4 : ρ.c 4 = l
  c5 : ρ.c 5 = T
  i40 : ρ.i 40 = (k : Int)
def ansN : Value := .tuple #[.agg noPk.toArray, .bool false, .int .i64 0]
def ansY (l : Rws) : Value := .tuple #[.agg (whP l).toArray, .bool true, .int .i64 0]
section
variable {p : List Value} {l T : Rws} {k : Nat} {ρ : Env} {S : Nat → Prop} {w0 w : World} {β0 β : Bn} {a : Act} {R : Value → World → Prop}
theorem RfE.bds (X : RfX p l T k) (E : RfE p l T k ρ) : bdsP ρ bs27 := by
  have h1 := X.k1
  have h2 := X.t8
  have h3 := X.l0
  have h4 := X.l1
  refine ⟨?_, ?_, ?_, tb_bds X.hp E.p20⟩
  · show (0 : Int) ≤ ρ.i 40 ∧ ρ.i 40 ≤ 7
    rw [E.i40]; omega
  · show (1 : Int) ≤ ((ρ.c 4).length : Int) ∧ ((ρ.c 4).length : Int) ≤ 1099511627776
    rw [E.c4]; omega
  · show (1 : Int) ≤ ((ρ.c 5).length : Int) ∧ ((ρ.c 5).length : Int) ≤ 8
    rw [E.c5]; omega
theorem q_bd (h : GL l) (i : Nat) : 0 ≤ pOff (l.getD i []) ∧ pTo (l.getD i []) ≤ 4000 := by
  by_cases hi : i < l.length
  · have hm : l.getD i [] ∈ l := by
      rw [List.getD_eq_getElem?_getD, List.getElem?_eq_getElem hi]
      exact List.getElem_mem _
    exact ⟨(h.row _ hm).o0, (h.row _ hm).t1⟩
  · rw [List.getD_eq_getElem?_getD, List.getElem?_eq_none (Nat.le_of_not_lt hi)]
    decide
theorem q_mem {i : Nat} (hi : i < l.length) : l.getD i [] ∈ l := by
  rw [List.getD_eq_getElem?_getD, List.getElem?_eq_getElem hi]
  exact List.getElem_mem _
theorem RfE.qF (E : RfE p l T k ρ) : (den ρ qF).i = pFrom (l.getD (ρ.i 45).toNat []) := by
  show 8 * gI .i64 ((ρ.c 4).getD (ρ.i 45).toNat []) 7 = _
  rw [E.c4]; rfl
theorem RfE.qB (E : RfE p l T k ρ) : (den ρ qB).s = pBody (l.getD (ρ.i 45).toNat []) := by
  show gS ((ρ.c 4).getD (ρ.i 45).toNat []) 8 = _
  rw [E.c4]; rfl
theorem RfE.qM (E : RfE p l T k ρ) : (den ρ qM).b = pMore (l.getD (ρ.i 45).toNat []) := by
  show gB ((ρ.c 4).getD (ρ.i 45).toNat []) 6 = _
  rw [E.c4]; rfl
theorem RfE.qT (E : RfE p l T k ρ) : (den ρ qT).i = pTo (l.getD (ρ.i 45).toNat []) := by
  show (den ρ Go.Proofs.Ytnmfmjlpfhdgeaa.qF).i + (((den ρ Go.Proofs.Ytnmfmjlpfhdgeaa.qB).s.size : Nat) : Int) = _
  rw [E.qF, E.qB]; rfl
theorem RfE.len (E : RfE p l T k ρ) : (den ρ (tlen (.cv 4))).i = (l.length : Int) := by
  show ((ρ.c 4).length : Int) = _
  rw [E.c4]
theorem RfE.qbs (X : RfX p l T k) (E : RfE p l T k ρ) (h0 : 0 ≤ ρ.i 45) (h1 : ρ.i 45 ≤ l.length) {bs : List Bd} (hb : bdsP ρ bs) : bdsP ρ (qBs (.iv 45) ++ bs) := by
  obtain ⟨q1, q2⟩ := q_bd X.gl (ρ.i 45).toNat
  have h4 := X.l1
  have e1 : pTo (l.getD (ρ.i 45).toNat []) = pFrom (l.getD (ρ.i 45).toNat []) + ((pBody (l.getD (ρ.i 45).toNat [])).size : Int) := rfl
  have e2 : pFrom (l.getD (ρ.i 45).toNat []) = 8 * pOff (l.getD (ρ.i 45).toNat []) := rfl
  refine ⟨?_, ?_, ?_, ?_, hb⟩
  · show (0 : Int) ≤ ρ.i 45 ∧ ρ.i 45 ≤ 1099511627776
    omega
  · show (0 : Int) ≤ (den ρ Go.Proofs.Ytnmfmjlpfhdgeaa.qF).i ∧ (den ρ Go.Proofs.Ytnmfmjlpfhdgeaa.qF).i ≤ 4000
    rw [E.qF]; omega
  · show (0 : Int) ≤ (((den ρ Go.Proofs.Ytnmfmjlpfhdgeaa.qB).s.size : Nat) : Int) ∧ (((den ρ Go.Proofs.Ytnmfmjlpfhdgeaa.qB).s.size : Nat) : Int) ≤ 4000
    rw [E.qB]; omega
  · show (0 : Int) ≤ (den ρ Go.Proofs.Ytnmfmjlpfhdgeaa.qT).i ∧ (den ρ Go.Proofs.Ytnmfmjlpfhdgeaa.qT).i ≤ 4000
    rw [E.qT]; omega
/-! At last. -/
theorem drop_rows {T : Rws} {k : Nat} (hk : k < T.length) {c : Nat} (hc : c = T.length - (k + 1)) : (T.drop 0).take k ++ (T.drop (k + 1)).take c = T.eraseIdx k := by
  rw [List.drop_zero, List.take_of_length_le (l := T.drop (k + 1)) (by rw [List.length_drop]; omega), List.eraseIdx_eq_take_drop_succ]
set_option maxRecDepth 100000 in
set_option maxHeartbeats 1000000 in
theorem rf_tail (X : RfX p l T k) (E : RfE p l T k ρ) {n : Nat} {cs : List Value} (h43 : ρ.i 43 = enOf l) (hcs : ∀ β, denL ρ β (pkC 70) = cs) (G : Gdy l n cs (ρ.s 61)) (hn : (n : Int) < enOf l → dnB l = false)
    (hR : ∀ (v : Value) (w' : World) (g cap : Nat) (rows : Rws), Only S w0 w' → Blk w' (β0 0) 28 [sltV g cap rows.length] → RowT w' g cap 64 rLv rows → (cap ≠ 0 → S g ∨ w0.heap.size ≤ g) → ((dnB l = false ∧ v = ansN ∧ rows = T ∧ RowT w' (β0 182) (β0 183) 35 pkLv l) ∨ (dnB l = true ∧ v = ansY l ∧ rows = T.eraseIdx k)) → R v w')
    (M : Md ρ S w0 β0 184 { rTO with cx := ⟨[], []⟩ } β a w) : (rC48 Try.f9).wp Try.prog (bodyPost Try.prog Try.f9 (RetP R)) a w := by
  have h1 := X.k1
  have h2 := X.t8
  have hlen : ((ρ.c 5).length : Int) = (T.length : Int) := by rw [E.c5]
  have hen := en_bd X.gl.row
  have hsz := G.size
  have hle := G.le
  have e40 := E.i40
  have hD : (den ρ cutB).c = (T.drop (k + 1)).take (T.length - (k + 1)) := by
    show ((ρ.c 5).drop (ρ.i 40 + 1).toNat).take ((ρ.i 40 + (((ρ.c 5).length : Int) - (ρ.i 40 + 1)) + 1).toNat - (ρ.i 40 + 1).toNat) = _
    rw [hlen, e40, E.c5, show ((k : Int) + 1).toNat = k + 1 by omega, show ((k : Int) + ((T.length : Int) - ((k : Int) + 1)) + 1).toNat = T.length by omega]
  have hcut : (((den ρ cutB).c.length : Nat) : Int) = (T.length : Int) - ((k : Int) + 1) := by
    rw [hD, List.length_take, List.length_drop]; omega
  have hcx : cx48.ok ρ := by
    refine cxP ⟨?_, ?_, ?_, E.bds X⟩ ⟨?_, ?_, ?_, ?_, ?_, trivial⟩
    · show (0 : Int) ≤ ((ρ.c 5).length : Int) - (ρ.i 40 + 1) ∧ ((ρ.c 5).length : Int) - (ρ.i 40 + 1) ≤ 8
      omega
    · show (0 : Int) ≤ ((ρ.s 61).size : Int) ∧ ((ρ.s 61).size : Int) ≤ 4000
      omega
    · show (-1 : Int) ≤ ρ.i 43 ∧ ρ.i 43 ≤ 4000
      rw [h43]; exact hen
    · rw [t_le]
      show (ρ.i 40 + (((den ρ cutB).c.length : Nat) : Int)) * 32 ≤ 140737488355328
      omega
    · rw [t_le]
      show ρ.i 40 + (((ρ.c 5).length : Int) - (ρ.i 40 + 1)) + 1 ≤ ((ρ.c 5).length : Int)
      omega
    · rw [t_le]
      show ρ.i 40 + 1 ≤ ((ρ.c 5).length : Int)
      omega
    · rw [t_le]
      show ρ.i 40 ≤ ((ρ.c 5).length : Int)
      omega
    · rw [t_lt]
      show ρ.i 40 < ((ρ.c 5).length : Int)
      omega
  have M1 : Md ρ S w0 β0 184 { rTO with cx := cx48 } β a w := Go.Proofs.Ytnmfmjlpfhdgeaa.Md.cxTo M cx48 hcx
  have hh := rf_hp48
  simp only [List.all_cons, List.all_nil, Bool.and_eq_true, and_true] at hh
  obtain ⟨⟨q0, q1, q2⟩, ⟨r0, r1, r2⟩⟩ := hh
  have no : ∀ (s : Sy.St), hasBk s (uB 108 (tlen (.cv 5))) = true → hasBk s (loB 108 (.cv 5)) = true → hasBk s (lpB (.cv 4)) = true → retS Try.prog s Try.f9.results.toList = some (vIn zC false 0) → dnB l = false → ∀ β a w', Md ρ S w0 β0 184 s β a w' → bodyPost Try.prog Try.f9 (RetP R) .ret a w' := fun s b1 b2 b3 hr hd β a w' M => by
    refine ret_post (B := ⟨ρ, S, w0, β0, 184⟩) M hr ?_
    have B1 : Blk w' (β 0) 28 [sltZ (β 108) (β 109) 2 0 ((ρ.c 5).length : Int).toNat 0] := M.hp _ (has_mem b1)
    have B2 : RowT w' (β 108) (β 109) 64 rLv (ρ.c 5) := M.hp _ (has_mem b2)
    have B3 : RowT w' (β 182) (β 183) 35 pkLv (ρ.c 4) := M.hp _ (has_mem b3)
    rw [sltZ_zero, Int.toNat_natCast, E.c5, M.old 0 (show 0 < 184 by decide)] at B1
    rw [E.c5] at B2
    rw [E.c4, M.old 182 (show 182 < 184 by decide), M.old 183 (show 183 < 184 by decide)] at B3
    refine hR _ w' _ _ T M.only B1 B2 (fun hc => M.may _ (has_mem b2) rfl (.inr hc) _ (fp_root β _)) (.inl ⟨hd, rfl, rfl, B3⟩)
  refine part_wp (B := ⟨ρ, S, w0, β0, 184⟩) (sp := []) E.good (fun q hq => by cases hq) rfl (r := rR48 Try.prog Try.f9) rfl rf_run48 ⟨?_, ?_, ?_, trivial⟩ M1
  · intro hpc β a w' M
    have c0 := hpc.1
    rw [t_lt] at c0
    change ((ρ.s 61).size : Int) < ρ.i 43 at c0
    exact no _ q0 q1 q2 (retsB_ok rf_ret48a rfl) (hn (by omega)) β a w' M
  · intro hpc β a w' M
    have c0 := hpc.1
    have c1 := hpc.2.1
    rw [t_not, t_lt] at c0 c1
    change ¬ ((ρ.s 61).size : Int) < ρ.i 43 at c0
    change ¬ ρ.i 43 < 0 at c1
    obtain ⟨d1, d2, d3⟩ := G.done X.gl (by omega) (by omega)
    have hb := rf_hp48b
    rw [Bool.and_eq_true] at hb
    refine ret_post (B := ⟨ρ, S, w0, β0, 184⟩) M (retsB_ok rf_ret48b rfl) ?_
    have B1 : Blk w' (β 0) 28 [sltZ (β 250) (β 251) 2 0 (ρ.i 40 + (((ρ.c 5).length : Int) - (ρ.i 40 + 1))).toNat 0] := M.hp _ (has_mem hb.1)
    have B2 : RowT w' (β 250) (β 251) 64 rLv (((ρ.c 5).drop ((0 : Int)).toNat).take ((ρ.i 40).toNat - ((0 : Int)).toNat) ++ (den ρ cutB).c) := M.hp _ (has_mem hb.2)
    have er : ((ρ.c 5).drop ((0 : Int)).toNat).take ((ρ.i 40).toNat - ((0 : Int)).toNat) ++ (den ρ cutB).c = T.eraseIdx k := by
      rw [hD, E.c5, e40]
      exact drop_rows h1 rfl
    rw [er] at B2
    have el : (ρ.i 40 + (((ρ.c 5).length : Int) - (ρ.i 40 + 1))).toNat = (T.eraseIdx k).length := by
      rw [List.length_eraseIdx_of_lt h1]; omega
    rw [sltZ_zero, el, M.old 0 (show 0 < 184 by decide)] at B1
    refine hR _ w' _ _ _ M.only B1 B2 (fun hc => M.may _ (has_mem hb.2) rfl (.inr hc) _ (fp_root β _)) (.inr ⟨d1, ?_, rfl⟩)
    have e := hcs β
    show Value.tuple #[.agg #[.int .u32 (ρ.i 70), .int .u32 (ρ.i 71), .int .i64 (ρ.i 72), .int .i64 (ρ.i 73), .int .i64 (ρ.i 74), .bool (ρ.b 75), .bool false, .int .i64 0, .string (ρ.s 61)], .bool true, .int .i64 0] = _
    unfold ansY whP
    rw [← d3, ← e, d2]
    rfl
  · intro hpc β a w' M
    have c0 := hpc.1
    rw [t_lt] at c0
    change ρ.i 43 < 0 at c0
    exact no _ r0 r1 r2 (retsB_ok rf_ret48a rfl) (dn_neg (by omega)) β a w' M
end
end Go.Proofs.Ytnmfmjlpfhdgeaa
/- Fragments: the document's In: the end, the bytes. -/
namespace Go.Proofs.Ytnmfmjlpfhdgeaa
open Go.RowKit Sy
set_option linter.unusedVariables false
set_option linter.unusedSimpArgs false

section
variable {p : List Value} {l T : Rws} {k : Nat} {ρ : Env} {S : Nat → Prop} {w0 w : World} {β0 β : Bn} {a : Act} {R : Value → World → Prop}
/-- How far one has come in the list. -/
structure RfI (p : List Value) (l T : Rws) (k n0 : Nat) (ρ : Env) : Prop extends RfE p l T k ρ where
  h0 : 0 ≤ ρ.i 45
  h1 : ρ.i 45 ≤ l.length
  i43 : ρ.i 43 = enOf l
  g : ∃ n cs, (∀ β, denL ρ β (pkC 70) = cs) ∧ Gdy l n cs (ρ.s 61) ∧ (ρ.b 62 = true → n0 < n) ∧ (ρ.b 62 = false → n = n0 ∧ ∀ j : Nat, (j : Int) < ρ.i 45 → cov (n : Int) (l.getD j []) = false)
structure RfO (p : List Value) (l T : Rws) (k : Nat) (ρ : Env) : Prop extends RfE p l T k ρ where
  i43 : ρ.i 43 = enOf l
  g : ∃ n cs, (∀ β, denL ρ β (pkC 70) = cs) ∧ Gdy l n cs (ρ.s 61) ∧ (ρ.b 62 = false → hsAt l (n : Int) = false)
theorem RfO.cx (X : RfX p l T k) (I : RfO p l T k ρ) : rTO.cx.ok ρ := by
  obtain ⟨n, cs, _, G, _⟩ := I.g
  have hsz := G.size
  have hle := G.le
  have hen := en_bd X.gl.row
  refine cxP ⟨?_, ?_, I.toRfE.bds X⟩ trivial
  · show (0 : Int) ≤ ((ρ.s 61).size : Int) ∧ ((ρ.s 61).size : Int) ≤ 4000
    omega
  · show (-1 : Int) ≤ ρ.i 43 ∧ ρ.i 43 ≤ 4000
    rw [I.i43]; exact hen
theorem RfI.cx {n0 : Nat} (X : RfX p l T k) (I : RfI p l T k n0 ρ) : rTI.cx.ok ρ := by
  obtain ⟨n, cs, _, G, _⟩ := I.g
  have hsz := G.size
  have hle := G.le
  have hen := en_bd X.gl.row
  refine cxP (I.toRfE.qbs X I.h0 I.h1 ⟨?_, ?_, I.toRfE.bds X⟩) ⟨?_, trivial⟩
  · show (0 : Int) ≤ ((ρ.s 61).size : Int) ∧ ((ρ.s 61).size : Int) ≤ 4000
    omega
  · show (-1 : Int) ≤ ρ.i 43 ∧ ρ.i 43 ≤ 4000
    rw [I.i43]; exact hen
  · rw [t_le, I.toRfE.len]
    exact I.h1
def muO (ρ : Env) : Nat := if ρ.b 62 = true then 4001 - (ρ.s 61).size else 0
set_option maxRecDepth 100000 in
set_option maxHeartbeats 4000000 in
/-- The inner loop. -/
theorem rf_inner (X : RfX p l T k) {n0 : Nat} (hn0 : n0 ≤ 4000) (I0 : RfI p l T k n0 ρ) {Q : Exit → Act → World → Prop}
    (hQ : ∀ ρ', RfO p l T k ρ' → muO ρ' < 4001 - n0 → ∀ β a w, Md ρ' S w0 β0 184 rTO β a w → Q (.exit 8) a w) (M : Md ρ S w0 β0 184 rTI β a w) : (Code.loop (rCI Try.f9)).wp Try.prog Q a w := by
  refine loop_wp (r := rRI Try.prog Try.f9) rfl rf_runI (RfI p l T k n0) (fun ρ => l.length - (ρ.i 45).toNat) (fun ρ I => I.good) (fun ρ I q hq => by cases hq) (fun ρ I => I.cx X) ?_ I0 M
  intro ρ I
  obtain ⟨n, cs, hcs, G, hg1, hg0⟩ := I.g
  have h0 := I.h0
  have h1 := I.h1
  have E := I.toRfE
  have hsz := G.size
  have dF := E.qF
  have dT := E.qT
  have dB := E.qB
  have dL := E.len
  have dS : (den ρ s61).i = (n : Int) := by show ((ρ.s 61).size : Int) = _; omega
  have e1 : pTo (l.getD (ρ.i 45).toNat []) = pFrom (l.getD (ρ.i 45).toNat []) + ((pBody (l.getD (ρ.i 45).toNat [])).size : Int) := rfl
  have dQL : (den ρ (.len qB)).i = ((pBody (l.getD (ρ.i 45).toNat [])).size : Int) := by
    show (((den ρ qB).s.size : Nat) : Int) = _
    rw [dB]
  have grown : ∀ (al : List As) (cs' : List Value), ρ.i 45 < l.length → pFrom (l.getD (ρ.i 45).toNat []) ≤ n → (n : Int) < pTo (l.getD (ρ.i 45).toNat []) → cs' = fsC l →
      (∀ β u, ({ ρ.sub β al with u := u } : Env).good ∧ (∀ β', denL { ρ.sub β al with u := u } β' (pkC 20) = p) ∧ (ρ.sub β al).c 4 = l ∧ (ρ.sub β al).c 5 = T ∧ (ρ.sub β al).i 40 = (k : Int) ∧ (ρ.sub β al).i 45 = ρ.i 45 + 1 ∧ (ρ.sub β al).i 43 = ρ.i 43 ∧ (ρ.sub β al).b 62 = true ∧ (ρ.sub β al).s 61 = (den ρ (.app (.sv 61) (.cut qB (.sub s61 qF) (.len qB)))).s ∧ ∀ β', denL { ρ.sub β al with u := u } β' (pkC 70) = cs') →
      ∀ (β : Bn) u, RfI p l T k n0 { ρ.sub β al with u := u } ∧ l.length - (({ ρ.sub β al with u := u } : Env).i 45).toNat < l.length - (ρ.i 45).toNat := fun al cs' hi hfr hto hc H β u => by
    obtain ⟨a1, a2, a3, a4, a5, a6, a7, a8, a9, a10⟩ := H β u
    have hq : l.getD (ρ.i 45).toNat [] ∈ l := q_mem (by omega)
    have hs : (ρ.sub β al).s 61 = ρ.s 61 ++ (pBody (l.getD (ρ.i 45).toNat [])).extract ((n : Int) - pFrom (l.getD (ρ.i 45).toNat [])).toNat (pBody (l.getD (ρ.i 45).toNat [])).size := by
      rw [a9]
      show ρ.s 61 ++ (den ρ qB).s.extract ((den ρ s61).i - (den ρ qF).i).toNat (den ρ (.len qB)).i.toNat = _
      rw [dB, dS, dF, dQL, Int.toNat_natCast]
    refine ⟨⟨⟨a1, a2, a3, a4, a5⟩, ?_, ?_, ?_, ?_⟩, ?_⟩
    · show 0 ≤ (ρ.sub β al).i 45
      rw [a6]; omega
    · show (ρ.sub β al).i 45 ≤ _
      rw [a6]; omega
    · show (ρ.sub β al).i 43 = _
      rw [a7]; exact I.i43
    · refine ⟨(pTo (l.getD (ρ.i 45).toNat [])).toNat, cs', a10, ?_, fun _ => ?_, fun e => ?_⟩
      · show Gdy l _ _ ((ρ.sub β al).s 61)
        rw [hs]
        exact G.step X.gl hq hfr hto hc
      · cases hb : ρ.b 62 with
        | true => have := hg1 hb; omega
        | false => have := (hg0 hb).1; omega
      · change (ρ.sub β al).b 62 = false at e
        rw [a8] at e
        cases e
    · show l.length - ((ρ.sub β al).i 45).toNat < _
      rw [a6]; omega
  have stay : ∀ (al : List As), ρ.i 45 < l.length → cov (n : Int) (l.getD (ρ.i 45).toNat []) = false →
      (∀ β u, ({ ρ.sub β al with u := u } : Env).good ∧ (∀ β', denL { ρ.sub β al with u := u } β' (pkC 20) = p) ∧ (ρ.sub β al).c 4 = l ∧ (ρ.sub β al).c 5 = T ∧ (ρ.sub β al).i 40 = (k : Int) ∧ (ρ.sub β al).i 45 = ρ.i 45 + 1 ∧ (ρ.sub β al).i 43 = ρ.i 43 ∧ (ρ.sub β al).b 62 = ρ.b 62 ∧ (ρ.sub β al).s 61 = ρ.s 61 ∧ ∀ β', denL { ρ.sub β al with u := u } β' (pkC 70) = denL ρ β' (pkC 70)) →
      ∀ (β : Bn) u, RfI p l T k n0 { ρ.sub β al with u := u } ∧ l.length - (({ ρ.sub β al with u := u } : Env).i 45).toNat < l.length - (ρ.i 45).toNat := fun al hi hc H β u => by
    obtain ⟨a1, a2, a3, a4, a5, a6, a7, a8, a9, a10⟩ := H β u
    refine ⟨⟨⟨a1, a2, a3, a4, a5⟩, ?_, ?_, ?_, ?_⟩, ?_⟩
    · show 0 ≤ (ρ.sub β al).i 45
      rw [a6]; omega
    · show (ρ.sub β al).i 45 ≤ _
      rw [a6]; omega
    · show (ρ.sub β al).i 43 = _
      rw [a7]; exact I.i43
    · refine ⟨n, cs, fun β' => (a10 β').trans (hcs β'), ?_, fun e => ?_, fun e => ?_⟩
      · show Gdy l _ _ ((ρ.sub β al).s 61)
        rw [a9]; exact G
      · change (ρ.sub β al).b 62 = true at e
        rw [a8] at e
        exact hg1 e
      · change (ρ.sub β al).b 62 = false at e
        rw [a8] at e
        obtain ⟨g1, g2⟩ := hg0 e
        refine ⟨g1, fun j hj => ?_⟩
        change (j : Int) < (ρ.sub β al).i 45 at hj
        rw [a6] at hj
        by_cases q : (j : Int) < ρ.i 45
        · exact g2 j q
        · rw [show j = (ρ.i 45).toNat by omega]
          exact hc
    · show l.length - ((ρ.sub β al).i 45).toNat < _
      rw [a6]; omega
  have ltI : ∀ {pc : List Tm}, pcs ρ (qIn ++ pc) → ρ.i 45 < l.length := fun {pc} h => by
    have := h.1
    rw [t_lt, dL] at this
    exact this
  have stdE : ∀ (β : Bn) u, ({ ρ.sub β [n45] with u := u } : Env).good ∧ (∀ β', denL { ρ.sub β [n45] with u := u } β' (pkC 20) = p) ∧ (ρ.sub β [n45]).c 4 = l ∧ (ρ.sub β [n45]).c 5 = T ∧ (ρ.sub β [n45]).i 40 = (k : Int) ∧ (ρ.sub β [n45]).i 45 = ρ.i 45 + 1 ∧ (ρ.sub β [n45]).i 43 = ρ.i 43 ∧ (ρ.sub β [n45]).b 62 = ρ.b 62 ∧ (ρ.sub β [n45]).s 61 = ρ.s 61 ∧ ∀ β', denL { ρ.sub β [n45] with u := u } β' (pkC 70) = denL ρ β' (pkC 70) := fun β u => ⟨E.good, E.p20, E.c4, E.c5, E.i40, rfl, rfl, rfl, rfl, fun _ => rfl⟩
  have grE : ∀ (β : Bn) u, ({ ρ.sub β qGrow with u := u } : Env).good ∧ (∀ β', denL { ρ.sub β qGrow with u := u } β' (pkC 20) = p) ∧ (ρ.sub β qGrow).c 4 = l ∧ (ρ.sub β qGrow).c 5 = T ∧ (ρ.sub β qGrow).i 40 = (k : Int) ∧ (ρ.sub β qGrow).i 45 = ρ.i 45 + 1 ∧ (ρ.sub β qGrow).i 43 = ρ.i 43 ∧ (ρ.sub β qGrow).b 62 = true ∧ (ρ.sub β qGrow).s 61 = (den ρ (.app (.sv 61) (.cut qB (.sub s61 qF) (.len qB)))).s ∧ ∀ β', denL { ρ.sub β qGrow with u := u } β' (pkC 70) = cs := fun β u => ⟨E.good, E.p20, E.c4, E.c5, E.i40, rfl, rfl, rfl, rfl, hcs⟩
  refine ⟨?_, ?_, ?_, ?_, ?_, ?_, ?_, ?_, ?_, ?_, trivial⟩
  · intro hpc
    have c0 := hpc.1
    have c1 := hpc.2.1
    have c2 := hpc.2.2.1
    have c3 := hpc.2.2.2.1
    rw [t_lt, dS, dT] at c0
    rw [t_eq, dS] at c1
    rw [t_eq, dF] at c2
    rw [t_lt, dL] at c3
    change (n : Int) = 0 at c1
    change pFrom _ = 0 at c2
    change ρ.i 45 < _ at c3
    have hq : l.getD (ρ.i 45).toNat [] ∈ l := q_mem (by omega)
    have hrow := X.gl.row _ hq
    have hf : fsC l = l.getD (ρ.i 45).toNat [] := by
      unfold fsC
      rw [fs_first (l := l) (i := (ρ.i 45).toNat) (by omega) (by have : pFrom (l.getD (ρ.i 45).toNat []) = 8 * pOff (l.getD (ρ.i 45).toNat []) := rfl; omega) (fun j hj => ?_)]
      · rfl
      · intro hz
        have hqj : l.getD j [] ∈ l := q_mem (by omega)
        have hrj := X.gl.row _ hqj
        have z := hrj.z hz
        have f : pFrom (l.getD j []) = 8 * pOff (l.getD j []) := rfl
        cases hb : ρ.b 62 with
        | true => have := hg1 hb; omega
        | false =>
          have := (hg0 hb).2 j (by omega)
          rw [cov_iff.2 ⟨by omega, by omega⟩] at this
          cases this
    refine grown _ (rwV (l.getD (ρ.i 45).toNat [])) c3 (by omega) c0 ((rw_den hrow.ok).trans hf.symm) fun β u => ⟨E.good, E.p20, E.c4, E.c5, E.i40, rfl, rfl, rfl, rfl, fun β' => ?_⟩
    show rwV ((ρ.c 4).getD (ρ.i 45).toNat []) = _
    rw [E.c4]
  · intro hpc
    have c0 := hpc.1
    have c1 := hpc.2.1
    have c2 := hpc.2.2.1
    have c3 := hpc.2.2.2.1
    rw [t_not, t_lt, dS, dT] at c0
    rw [t_eq, dS] at c1
    rw [t_eq, dF] at c2
    rw [t_lt, dL] at c3
    change (n : Int) = 0 at c1
    change pFrom _ = 0 at c2
    change ρ.i 45 < _ at c3
    have hq : l.getD (ρ.i 45).toNat [] ∈ l := q_mem (by omega)
    have z := (X.gl.row _ hq).z (by have : pFrom (l.getD (ρ.i 45).toNat []) = 8 * pOff (l.getD (ρ.i 45).toNat []) := rfl; omega)
    omega
  · intro hpc
    have c0 := hpc.1
    rw [t_lt, dS, dT] at c0
    rw [show qMust = .le (.sub s61 qF) (.len qB) from rfl, t_le, i_sub, dS, dF, dQL]
    omega
  · intro hpc
    have c0 := hpc.2.1
    have c1 := hpc.2.2.1
    have c2 := hpc.2.2.2.1
    have c3 := hpc.2.2.2.2.1
    rw [t_lt, dS, dT] at c0
    rw [t_not, t_eq, dS] at c1
    rw [t_eq, dF] at c2
    rw [t_lt, dL] at c3
    change ¬ (n : Int) = 0 at c1
    change pFrom _ = 0 at c2
    change ρ.i 45 < _ at c3
    exact grown _ cs c3 (by omega) c0 (G.out (by omega)) grE
  · intro hpc
    have c0 := hpc.1
    have c3 := hpc.2.2.2.1
    rw [t_not, t_lt, dS, dT] at c0
    rw [t_lt, dL] at c3
    refine stay _ c3 ?_ stdE
    cases hc : cov (n : Int) (l.getD (ρ.i 45).toNat []) with
    | false => rfl
    | true => exact absurd (cov_iff.1 hc).2 c0
  · intro hpc
    have c0 := hpc.1
    rw [t_lt, dS, dT] at c0
    rw [show qMust = .le (.sub s61 qF) (.len qB) from rfl, t_le, i_sub, dS, dF, dQL]
    omega
  · intro hpc
    have c0 := hpc.2.1
    have c1 := hpc.2.2.1
    have c2 := hpc.2.2.2.1
    have c3 := hpc.2.2.2.2.1
    rw [t_lt, dS, dT] at c0
    rw [t_le, dF, dS] at c1
    rw [t_not, t_eq, dF] at c2
    rw [t_lt, dL] at c3
    change ¬ pFrom _ = 0 at c2
    change ρ.i 45 < _ at c3
    have hq : l.getD (ρ.i 45).toNat [] ∈ l := q_mem (by omega)
    have f0 := (X.gl.row _ hq).f0
    exact grown _ cs c3 c1 c0 (G.out (by omega)) grE
  · intro hpc
    have c0 := hpc.1
    have c3 := hpc.2.2.2.1
    rw [t_not, t_lt, dS, dT] at c0
    rw [t_lt, dL] at c3
    refine stay _ c3 ?_ stdE
    cases hc : cov (n : Int) (l.getD (ρ.i 45).toNat []) with
    | false => rfl
    | true => exact absurd (cov_iff.1 hc).2 c0
  · intro hpc
    have c0 := hpc.1
    have c3 := hpc.2.2.1
    rw [t_not, t_le, dF, dS] at c0
    rw [t_lt, dL] at c3
    refine stay _ c3 ?_ stdE
    cases hc : cov (n : Int) (l.getD (ρ.i 45).toNat []) with
    | false => rfl
    | true => exact absurd (cov_iff.1 hc).1 c0
  · intro hpc β a w M
    have c0 := hpc.1
    rw [t_not, t_lt, dL] at c0
    change ¬ ρ.i 45 < _ at c0
    obtain ⟨u, β', M'⟩ := Sy.Md.enter M rf_mI fun u => ⟨fun _ h => (by cases h), fun _ h => (by cases h)⟩
    have I' : RfO p l T k { ρ.sub β [] with u := u } := ⟨⟨E.good, E.p20, E.c4, E.c5, E.i40⟩, I.i43, n, cs, hcs, G, fun e => by
      cases hh : hsAt l (n : Int) with
      | false => rfl
      | true =>
        obtain ⟨q, hq, hc⟩ := hs_iff.1 hh
        obtain ⟨j, hj, rfl⟩ := List.getElem_of_mem hq
        have := (hg0 e).2 j (by omega)
        rw [List.getD_eq_getElem?_getD, List.getElem?_eq_getElem hj] at this
        change cov (n : Int) l[j] = false at this
        rw [hc] at this
        cases this⟩
    refine hQ _ I' ?_ β' a w (Go.Proofs.Ytnmfmjlpfhdgeaa.Md.cxTo M' rTO.cx (I'.cx X))
    show (if ρ.b 62 = true then 4001 - (ρ.s 61).size else 0) < 4001 - n0
    have hle := G.le
    cases hb : ρ.b 62 with
    | true =>
      have := hg1 hb
      rw [if_pos rfl]; omega
    | false =>
      rw [if_neg (by decide)]; omega
end
end Go.Proofs.Ytnmfmjlpfhdgeaa
/- Fragments: the document's In: from the new fragment to the end. -/
namespace Go.Proofs.Ytnmfmjlpfhdgeaa
open Go.RowKit Sy
set_option linter.unusedVariables false
set_option linter.unusedSimpArgs false

section
variable {p : List Value} {l T : Rws} {k : Nat} {ρ : Env} {S : Nat → Prop} {w0 w : World} {β0 β : Bn} {a : Act} {R : Value → World → Prop}
theorem rf_outO : outOf 6 PI (rCO Try.f9) := outB_ok 6 PI (rCO Try.f9) (by kernel_rfl)
set_option maxRecDepth 100000 in
set_option maxHeartbeats 1000000 in
/-- A round of the outer loop. -/
theorem rf_outer (X : RfX p l T k) (I : RfO p l T k ρ)
    (hR : ∀ (v : Value) (w' : World) (g cap : Nat) (rows : Rws), Only S w0 w' → Blk w' (β0 0) 28 [sltV g cap rows.length] → RowT w' g cap 64 rLv rows → (cap ≠ 0 → S g ∨ w0.heap.size ≤ g) → ((dnB l = false ∧ v = ansN ∧ rows = T ∧ RowT w' (β0 182) (β0 183) 35 pkLv l) ∨ (dnB l = true ∧ v = ansY l ∧ rows = T.eraseIdx k)) → R v w')
    (M : Md ρ S w0 β0 184 rTO β a w) : (rCO Try.f9).wp Try.prog (Exit.then (NextR S w0 β0 184 rTO (RfO p l T k) muO (muO ρ)) (ctx Try.prog P28 (rC30 Try.f9) (bodyPost Try.prog Try.f9 (RetP R)))) a w := by
  obtain ⟨n, cs, hcs, G, hb0⟩ := I.g
  have E := I.toRfE
  have hsz := G.size
  refine part_preT (sp := []) (p := PI) (T := rTI) (r := rRO Try.prog Try.f9) rfl rf_runO (fun ρ' => RfI p l T k n ρ' ∧ ρ.b 62 = true) (fun ρ I => I.1.cx X) E.good (fun q hq => by cases hq) ⟨?_, ?_, ?_, trivial⟩ ?_ M
  · intro hpc β u
    have cb := hpc.2.1
    rw [t_bv] at cb
    refine ⟨⟨⟨E.good, E.p20, E.c4, E.c5, E.i40⟩, Int.le_refl _, by show (0 : Int) ≤ _; omega, I.i43, n, cs, hcs, G, fun e => (by cases e), fun _ => ⟨rfl, fun j hj => ?_⟩⟩, cb⟩
    change (j : Int) < 0 at hj
    omega
  · intro hpc β a w M
    have c0 := hpc.1
    rw [t_not, t_lt] at c0
    change ¬ ((ρ.s 61).size : Int) < ρ.i 43 at c0
    refine ⟨rf_outO, ?_⟩
    show (rC48 Try.f9).wp Try.prog (bodyPost Try.prog Try.f9 (RetP R)) a w
    obtain ⟨u, β', M'⟩ := Sy.Md.enter M rf_mO1 fun u => ⟨fun _ h => (by cases h), fun _ h => (by cases h)⟩
    refine rf_tail (ρ := { ρ.sub β [] with u := u }) X ⟨E.good, E.p20, E.c4, E.c5, E.i40⟩ I.i43 hcs G (fun e => ?_) hR M'
    have := I.i43
    omega
  · intro hpc β a w M
    have c0 := hpc.1
    rw [t_not, t_bv] at c0
    refine ⟨rf_outO, ?_⟩
    show (rC48 Try.f9).wp Try.prog (bodyPost Try.prog Try.f9 (RetP R)) a w
    obtain ⟨u, β', M'⟩ := Sy.Md.enter M rf_mO2 fun u => ⟨fun _ h => (by cases h), fun _ h => (by cases h)⟩
    exact rf_tail (ρ := { ρ.sub β [] with u := u }) X ⟨E.good, E.p20, E.c4, E.c5, E.i40⟩ I.i43 hcs G (fun e => dn_no e (hb0 (by simpa using c0))) hR M'
  · intro ρ' I' β a w M
    show (Sy.sub PI (rCO Try.f9)).wp Try.prog (ctx Try.prog PI (rCO Try.f9) _) a w
    rw [show Sy.sub PI (rCO Try.f9) = .loop (rCI Try.f9) by kernel_rfl]
    refine rf_inner X G.le I'.1 (fun ρ2 I2 hmu β a w M => ?_) M
    show NextR S w0 β0 184 rTO (RfO p l T k) muO (muO ρ) a w
    refine ⟨ρ2, ?_, I2, β, M⟩
    unfold muO at hmu ⊢
    rw [if_pos I'.2]
    rw [hsz]
    exact hmu
/-- Loop 3. -/
structure RfL (p : List Value) (l T : Rws) (k : Nat) (ρ : Env) : Prop extends RfE p l T k ρ where
  h0 : 0 ≤ ρ.i 45
  h1 : ρ.i 45 ≤ l.length
  i43 : ρ.i 43 = enOf (l.take (ρ.i 45).toNat)
theorem RfL.cx (X : RfX p l T k) (I : RfL p l T k ρ) : rT28.cx.ok ρ := by
  refine cxP (I.toRfE.qbs X I.h0 I.h1 (I.toRfE.bds X)) ⟨?_, trivial⟩
  rw [t_le, I.toRfE.len]
  exact I.h1
set_option maxRecDepth 100000 in
set_option maxHeartbeats 1000000 in
theorem rf_end (X : RfX p l T k) (E : RfE p l T k ρ)
    (hR : ∀ (v : Value) (w' : World) (g cap : Nat) (rows : Rws), Only S w0 w' → Blk w' (β0 0) 28 [sltV g cap rows.length] → RowT w' g cap 64 rLv rows → (cap ≠ 0 → S g ∨ w0.heap.size ≤ g) → ((dnB l = false ∧ v = ansN ∧ rows = T ∧ RowT w' (β0 182) (β0 183) 35 pkLv l) ∨ (dnB l = true ∧ v = ansY l ∧ rows = T.eraseIdx k)) → R v w')
    (M : Md ρ S w0 β0 184 (rT27 (tlen (.cv 5))) β a w) : (rC27 Try.f9).wp Try.prog (bodyPost Try.prog Try.f9 (RetP R)) a w := by
  refine part_pre (B := ⟨ρ, S, w0, β0, 184⟩) (sp := []) E.good (fun q hq => by cases hq) rfl (p := P28) (r := rR27 Try.prog Try.f9) rfl rf_run27 ⟨?_, trivial⟩ M
  intro _ β a w M
  show (Sy.sub P28 (rC27 Try.f9)).wp Try.prog (ctx Try.prog P28 (rC27 Try.f9) (bodyPost Try.prog Try.f9 (RetP R))) a w
  have J : ∀ u, RfL p l T k { ρ.sub β [.i 43 (.il (-1)), .i 45 (.il 0)] with u := u } := fun u => ⟨⟨E.good, E.p20, E.c4, E.c5, E.i40⟩, Int.le_refl _, by show (0 : Int) ≤ _; omega, by
    show (-1 : Int) = enOf (l.take 0)
    rw [List.take_zero]; rfl⟩
  obtain ⟨u, β', M'⟩ := Sy.Md.enter (M : Md ρ S w0 β0 184 (lfAt (rR27 Try.prog Try.f9) 0) β a w) rf_m27 fun u => (J u).cx X
  rw [show Sy.sub P28 (rC27 Try.f9) = .loop (rC28 Try.f9) by kernel_rfl]
  refine loop_wp (r := rR28 Try.prog Try.f9) rfl rf_run28 (RfL p l T k) (fun ρ => l.length - (ρ.i 45).toNat) (fun ρ I => I.good) (fun ρ I q hq => by cases hq) (fun ρ I => I.cx X) ?_ (J u) M'
  intro ρ I
  have E := I.toRfE
  have h0 := I.h0
  have h1 := I.h1
  have i43 := I.i43
  have dT := E.qT
  have dM := E.qM
  have dL := E.len
  refine ⟨?_, ?_, ?_, trivial⟩
  · intro hpc β u
    have c0 := hpc.1
    have c1 := hpc.2.1
    rw [t_not, dM] at c0
    rw [t_lt, dL] at c1
    change ρ.i 45 < _ at c1
    refine ⟨⟨⟨E.good, E.p20, E.c4, E.c5, E.i40⟩, ?_, ?_, ?_⟩, ?_⟩
    · show 0 ≤ ρ.i 45 + 1
      omega
    · show ρ.i 45 + 1 ≤ _
      omega
    · show (den ρ qT).i = enOf (l.take (ρ.i 45 + 1).toNat)
      rw [show (ρ.i 45 + 1).toNat = (ρ.i 45).toNat + 1 by omega, en_take X.gl (by omega), if_pos (by simpa using c0), dT]
    · show l.length - (ρ.i 45 + 1).toNat < l.length - (ρ.i 45).toNat
      omega
  · intro hpc β u
    have c0 := hpc.1
    have c1 := hpc.2.1
    rw [show (den ρ qM).b = pMore (l.getD (ρ.i 45).toNat []) from dM] at c0
    rw [t_lt, dL] at c1
    change ρ.i 45 < _ at c1
    refine ⟨⟨⟨E.good, E.p20, E.c4, E.c5, E.i40⟩, ?_, ?_, ?_⟩, ?_⟩
    · show 0 ≤ ρ.i 45 + 1
      omega
    · show ρ.i 45 + 1 ≤ _
      omega
    · show ρ.i 43 = enOf (l.take (ρ.i 45 + 1).toNat)
      rw [show (ρ.i 45 + 1).toNat = (ρ.i 45).toNat + 1 by omega, en_take X.gl (by omega), if_neg (by rw [c0]; decide), i43]
    · show l.length - (ρ.i 45 + 1).toNat < l.length - (ρ.i 45).toNat
      omega
  · intro hpc β a w M
    have c0 := hpc.1
    rw [t_not, t_lt, dL] at c0
    change ¬ ρ.i 45 < _ at c0
    show (rC30 Try.f9).wp Try.prog (bodyPost Try.prog Try.f9 (RetP R)) a w
    have e43 : ρ.i 43 = enOf l := by
      rw [i43, List.take_of_length_le (by omega)]
    obtain ⟨u, β', M'⟩ := Sy.Md.enter M rf_m28 fun u => ⟨fun _ h => (by cases h), fun _ h => (by cases h)⟩
    have E' : RfE p l T k { ρ.sub β [] with u := u } := ⟨E.good, E.p20, E.c4, E.c5, E.i40⟩
    have e43' : ({ ρ.sub β [] with u := u } : Env).i 43 = enOf l := e43
    generalize ({ ρ.sub β [] with u := u } : Env) = ρ at E' e43' M'
    have hen := en_bd X.gl.row
    have M2 := Go.Proofs.Ytnmfmjlpfhdgeaa.Md.cxTo M' rT30.cx (cxP ⟨by show (-1 : Int) ≤ ρ.i 43 ∧ ρ.i 43 ≤ 4000; rw [e43']; exact hen, E'.bds X⟩ trivial)
    refine part_pre (B := ⟨ρ, S, w0, β0, 184⟩) (sp := []) E'.good (fun q hq => by cases hq) rfl (p := P28) (r := rR30 Try.prog Try.f9) rfl rf_run30 ⟨?_, trivial⟩ M2
    intro _ β a w M
    show (Sy.sub P28 (rC30 Try.f9)).wp Try.prog (ctx Try.prog P28 (rC30 Try.f9) (bodyPost Try.prog Try.f9 (RetP R))) a w
    rw [show Sy.sub P28 (rC30 Try.f9) = .loop (rCO Try.f9) by kernel_rfl]
    have J : ∀ u, RfO p l T k { ρ.sub β [.s 61 (.sl []), .b 62 (.bl true), .i 70 (.il 0), .i 71 (.il 0), .i 72 (.il 0), .i 73 (.il 0), .i 74 (.il 0), .b 75 (.bl false), .b 76 (.bl false), .i 77 (.il 0), .s 78 (.sl [])] with u := u } := fun u => ⟨⟨E'.good, E'.p20, E'.c4, E'.c5, E'.i40⟩, e43', 0, noPk, fun _ => rfl, Gdy.nil l noPk, fun e => by cases e⟩
    obtain ⟨u, β', M'⟩ := Sy.Md.enter (M : Md ρ S w0 β0 184 (lfAt (rR30 Try.prog Try.f9) 0) β a w) rf_m30 fun u => (J u).cx X
    exact loop_round (RfO p l T k) muO (fun ρ I β a w M => rf_outer X I hR M) (J u) M'
end
end Go.Proofs.Ytnmfmjlpfhdgeaa
