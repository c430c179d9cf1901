/- Tables in a run with letters: places, loads, stores, parts, append. -/
import Derived.Test.YtnmfmjlpfhdgeaaSyT
namespace Go.Proofs.Ytnmfmjlpfhdgeaa
namespace Sy
open Go Go.RowKit
set_option linter.unusedVariables false
set_option linter.unusedSimpArgs false

/-! The table that lies in a block from a place on. -/
def tabOf (c : Cx) (b : Bk) (base m : Nat) : Option (List Kd × Tm × Tm) :=
  match b.str, b.x with
  | none, .tab lv t => if Nat.beq base 0 && Nat.beq m lv.length then some (lv, t, mkTL c t) else none
  | none, .arr ins => match insAt ins b.cs.length base with
    | some x => if Nat.beq m x.lv.length then some (x.lv, x.t, .il x.n) else none
    | none => none
  | _, _ => none
structure TabOk (ρ : Env) (β : Bn) (w : World) (b : Bk) (base m : Nat) (lv : List Kd) (t L : Tm) : Prop where
  mm : m = lv.length
  len : (den ρ L).i = ((den ρ t).c.length : Int)
  ok : ∀ r ∈ (den ρ t).c, kAll lv r
  cell : ∀ i f v, i < (den ρ t).c.length → ((den ρ t).c.getD i [])[f]? = some v → w.cell? ⟨β b.l, base + i * m + f, none⟩ = some v
  froz : ∀ o, 0 < (den ρ t).c.length → w.frozen? ⟨β b.l, o, none⟩ = false
  real : 0 < (den ρ t).c.length → b.real β
theorem getD_mem {l : List (List Value)} {i : Nat} (h : i < l.length) : l.getD i [] ∈ l := by
  rw [List.getD, List.getElem?_eq_getElem h]
  exact List.getElem_mem h
section
variable {w : World} {g c : Nat} {ty : TypeId} {lv : List Kd} {l : List (List Value)}
theorem RowT.blk (h : RowT w g c ty lv l) (hc : c ≠ 0) : ∃ cur : List Value, Blk w g ty cur ∧ cur.length = c * lv.length ∧ c ≤ maxLen ∧ cur.take (l.length * lv.length) = l.flatten := by
  obtain ⟨cur, h1, h2, h3, h4⟩ := h.row hc
  refine ⟨cur.toList, ?_, by simpa using h2, h3, h4⟩
  unfold Blk
  rw [h1]
theorem RowT.of_blk {cur : List Value} (h : Blk w g ty cur) (h1 : cur.length = c * lv.length) (h2 : c ≤ maxLen) (h3 : cur.take (l.length * lv.length) = l.flatten) (h4 : l.length ≤ c) (h5 : ∀ r ∈ l, kAll lv r) : RowT w g c ty lv l :=
  ⟨fun _ => ⟨cur.toArray, h, by simpa using h1, h2, by simpa using h3⟩, h4, h5⟩
theorem RowT.rows (h : RowT w g c ty lv l) : ∀ r ∈ l, r.length = lv.length := fun r hr => kAll_len (h.ok r hr)
theorem RowT.fits (h : RowT w g c ty lv l) : l.flatten.length = l.length * lv.length := flat_len h.rows
theorem RowT.cell (h : RowT w g c ty lv l) {i f : Nat} {v : Value} (hi : i < l.length) (hv : (l.getD i [])[f]? = some v) : w.cell? ⟨g, i * lv.length + f, none⟩ = some v := by
  have hl := h.len
  obtain ⟨cur, hb, h1, h2, h3⟩ := h.blk (by omega)
  have hf : f < lv.length := by
    have := kAll_len (h.ok _ (getD_mem hi))
    have := (List.getElem?_eq_some_iff.1 hv).1
    omega
  have hg := flat_get h.rows hi hf
  rw [hb.cell, ← hv, ← hg, ← h3, List.getElem?_take, if_pos]
  have : (i + 1) * lv.length ≤ l.length * lv.length := Nat.mul_le_mul_right _ hi
  rw [Nat.succ_mul] at this
  omega
theorem RowT.froz (h : RowT w g c ty lv l) (hc : c ≠ 0) (o : Nat) : w.frozen? ⟨g, o, none⟩ = false := by
  obtain ⟨cur, hb, _⟩ := h.blk hc
  exact hb.frozen o
theorem RowT.none_ (w : World) (g : Nat) (ty : TypeId) (lv : List Kd) : RowT w g 0 ty lv [] := ⟨fun h => absurd rfl h, Nat.le_refl _, fun _ h => (by cases h)⟩
end
theorem tabOf_ok {ρ : Env} {β : Bn} {w : World} {c : Cx} (hc : c.ok ρ) {b : Bk} (hb : BkOk ρ β w b) {base m : Nat} {lv : List Kd} {t L : Tm} (h : tabOf c b base m = some (lv, t, L)) : TabOk ρ β w b base m lv t L := by
  unfold tabOf at h
  unfold BkOk at hb
  split at h
  · rename_i lv' t' hs hx
    rw [hs, hx] at hb
    have hb : RowT w (β b.l) (β (b.l + 1)) b.ty lv' (den ρ t').c := hb
    split at h
    · rename_i q
      simp only [Bool.and_eq_true] at q
      have q1 := Nat.eq_of_beq_eq_true q.1
      have q2 := Nat.eq_of_beq_eq_true q.2
      injection h with h
      injection h with h1 h2
      injection h2 with h2 h3
      subst h1 h2 h3 q1 q2
      have hl := hb.len
      exact ⟨rfl, mkTL_ok hc _, hb.ok, fun i f v hi hv => by rw [Nat.zero_add]; exact hb.cell hi hv, fun o ho => hb.froz (by omega) o, fun ho => .inr (by omega)⟩
    · cases h
  · rename_i ins hs hx
    rw [hs, hx] at hb
    have hb : Blk w (β b.l) b.ty (layV ρ (denL ρ β b.cs) ins) ∧ insOk ρ ins := hb
    split at h
    · rename_i x hi
      split at h
      · rename_i q
        have q := Nat.eq_of_beq_eq_true q
        injection h with h
        injection h with h1 h2
        injection h2 with h2 h3
        subst h1 h2 h3 q
        rw [← denL_len (ρ := ρ) (β := β)] at hi
        obtain ⟨⟨i1, i2⟩, i3, _⟩ := insAt_ok hi hb.2
        refine ⟨rfl, by rw [i1]; rfl, i2, fun i f v hlt hv => ?_, fun o _ => hb.1.frozen o, fun _ => .inl (by unfold Bk.nilable; rw [hs, hx]; rfl)⟩
        have hf : f < x.lv.length := by
          have := kAll_len (i2 _ (getD_mem hlt))
          have := (List.getElem?_eq_some_iff.1 hv).1
          omega
        have hg := flat_get (m := x.lv.length) (fun r hr => kAll_len (i2 r hr)) hlt hf
        rw [hb.1.cell, Nat.add_assoc, i3, hg, hv]
        have : (i + 1) * x.lv.length ≤ x.n * x.lv.length := Nat.mul_le_mul_right _ (by omega)
        rw [Nat.succ_mul] at this
        omega
      · cases h
    · cases h
  · cases h

/-! Loads. -/
def locN (ins : List Ins) (len off k : Nat) : Option Nat :=
  match locC ins len off with
  | some j => if (List.range k).all fun i => match locC ins len (off + i) with
      | some j' => Nat.beq j' (j + i)
      | none => false
    then some j else none
  | none => none
theorem locN_ok {ins : List Ins} {len off k j : Nat} (h : locN ins len off k = some j) : ∀ i, i < k → locC ins len (off + i) = some (j + i) := by
  unfold locN at h
  split at h
  · rename_i j0 h0
    split at h
    · rename_i q
      injection h with h
      subst h
      intro i hi
      have := List.all_eq_true.1 q i (List.mem_range.2 hi)
      split at this
      · rename_i j' hj
        rw [hj, Nat.eq_of_beq_eq_true this]
      · cases this
    · cases h
  · cases h
def loadT (P : Program) (c : Cx) (hp : List Bk) (t : TypeId) (x : SV) : Option V1 :=
  match x with
  | .one (.c (.pta l base m i f)) => match find l hp with
    | some b => match tabOf c b base m with
      | some (lv, tt, L) => if sure c (.le (.il 0) i) && sure c (.lt i L) then
          match P.underlying t with
          | some d => if rowB d then (match P.info? t with
              | some inf => if Nat.ble (f + inf.size) lv.length then some (.agg (cellsT c tt i ((lv.drop f).take inf.size) f)) else none
              | none => none)
            else (lv[f]?).map fun k => .c (cellT c tt i k f)
          | none => none
        else none
      | none => none
    | none => none
  | .one (.c (.ptr l off)) => match find l hp with
    | some b => match b.str, b.x with
      | none, .arr ins => match P.underlying t with
        | some d => if rowB d then (match P.info? t with
            | some inf => match locN ins b.cs.length off inf.size with
              | some j => if Nat.ble (j + inf.size) b.cs.length then some (.agg ((b.cs.take (j + inf.size)).drop j)) else none
              | none => none
            | none => none)
          else match locC ins b.cs.length off with
            | some j => (b.cs[j]?).map .c
            | none => none
        | none => none
      | _, _ => none
    | none => none
  | _ => none
theorem loadT_ok {ρ : Env} {β : Bn} {P : Program} {c : Cx} (hc : c.ok ρ) {hp : List Bk} {t : TypeId} {x : SV} {v : V1} (h : loadT P c hp t x = some v) {w : World} (hb : ∀ b ∈ hp, BkOk ρ β w b) :
    (Instr.loadAt t (x.den ρ β)).run P w = .ok (v.den ρ β) w := by
  unfold loadT at h
  split at h
  · rename_i l base m i f
    split at h
    · rename_i b hf
      have hm := find_mem hf
      split at h
      · rename_i lv tt L ht
        have T := tabOf_ok hc (hb b hm.1) ht
        split at h
        · rename_i q
          simp only [Bool.and_eq_true] at q
          have q0 := le_of (sure_ok hc q.1)
          have q1 := lt_of (sure_ok hc q.2)
          change (0 : Int) ≤ _ at q0
          rw [T.len] at q1
          have hi : (den ρ i).i.toNat < (den ρ tt).c.length := by omega
          have hk := T.ok _ (getD_mem hi)
          have hkl := kAll_len hk
          have hmm := T.mm
          split at h
          · rename_i d hu
            show (Instr.loadAt t (.pointer (some ⟨β l, base + (den ρ i).i.toNat * m + f, none⟩))).run P w = _
            rw [← hm.2]
            split at h
            · rename_i hr
              split at h
              · rename_i inf hinf
                split at h
                · rename_i q2
                  have q2 := Nat.le_of_ble_eq_true q2
                  injection h with h
                  subst h
                  have hden : denL ρ β (cellsT c tt i ((lv.drop f).take inf.size) f) = (((den ρ tt).c.getD (den ρ i).i.toNat []).drop f).take inf.size := by
                    refine cellsT_ok hc (kAll_take _ (kAll_drop _ hk)) fun j v hv => ?_
                    rw [List.getElem?_take, List.getElem?_drop] at hv
                    split at hv
                    · exact hv
                    · cases hv
                  show _ = Result.ok (Value.agg (denL ρ β _).toArray) w
                  rw [hden]
                  refine run_loadAt_mid w (β b.l) _ t _ d ?_ hu (by cases d <;> first | rfl | cases hr) ?_
                  · intro j u hj
                    rw [List.getElem?_take, List.getElem?_drop] at hj
                    split at hj
                    · have := T.cell _ _ _ hi hj
                      rw [← Nat.add_assoc] at this
                      exact this
                    · cases hj
                  · rw [hinf]
                    show some inf.size = some _
                    congr 1
                    rw [List.length_take, List.length_drop, hkl]
                    omega
                · cases h
              · cases h
            · rename_i hr
              cases hlf : lv[f]? with
              | none => rw [hlf] at h; cases h
              | some k =>
                rw [hlf] at h
                injection h with h
                subst h
                obtain ⟨v, hv, hkv⟩ := kAll_get hk hlf
                show _ = Result.ok ((cellT c tt i k f).den ρ β) w
                rw [cellT_ok hc hv hkv]
                exact run_load1 hu (by simpa using hr) (T.cell _ _ _ hi hv)
          · cases h
        · cases h
      · cases h
    · cases h
  · rename_i l off
    split at h
    · rename_i b hf
      have hm := find_mem hf
      have hB0 := hb b hm.1
      unfold BkOk at hB0
      split at h
      · rename_i ins hs hx
        rw [hs, hx] at hB0
        have hB : Blk w (β b.l) b.ty (layV ρ (denL ρ β b.cs) ins) ∧ insOk ρ ins := hB0
        split at h
        · rename_i d hu
          show (Instr.loadAt t (.pointer (some ⟨β l, off, none⟩))).run P w = _
          rw [← hm.2]
          split at h
          · rename_i hr
            split at h
            · rename_i inf hinf
              split at h
              · rename_i j hj
                split at h
                · rename_i q
                  have q := Nat.le_of_ble_eq_true q
                  injection h with h
                  subst h
                  have hloc := locN_ok hj
                  refine run_loadAt_mid w (β b.l) off t _ d ?_ hu (by cases d <;> first | rfl | cases hr) ?_
                  · intro i u hi
                    have hlt : i < inf.size := by
                      have := (List.getElem?_eq_some_iff.1 hi).1
                      rw [denL_len, List.length_drop, List.length_take] at this
                      omega
                    have hl := hloc i hlt
                    rw [← denL_len (ρ := ρ) (β := β)] at hl
                    have := (locC_ok hl hB.2).2.1
                    rw [hB.1.cell, this]
                    rw [denL_drop, denL_take, List.getElem?_drop, List.getElem?_take] at hi
                    split at hi
                    · exact hi
                    · cases hi
                  · rw [hinf, denL_len, List.length_drop, List.length_take]
                    simp
                    omega
                · cases h
              · cases h
            · cases h
          · rename_i hr
            split at h
            · rename_i j hj
              cases hcs : b.cs[j]? with
              | none => rw [hcs] at h; cases h
              | some y =>
                rw [hcs] at h
                injection h with h
                subst h
                rw [← denL_len (ρ := ρ) (β := β)] at hj
                have := (locC_ok hj hB.2).2.1
                exact run_load1 hu (by simpa using hr) (by rw [hB.1.cell, this]; simp [denL, hcs]; rfl)
            · cases h
        · cases h
      · cases h
    · cases h
  · cases h

/-! Stores. -/
def setX (b : Bk) (base : Nat) (t : Tm) : Xt :=
  match b.x with
  | .tab lv _ => .tab lv t
  | .arr ins => .arr (insSet ins base t)
  | x => x
theorem setX_own (b : Bk) (base : Nat) (t : Tm) : (Bk.own { b with x := setX b base t }) = true → b.own = true ∧ (Bk.cs { b with x := setX b base t }) = b.cs := fun h => by
  refine ⟨?_, rfl⟩
  unfold Bk.own at h ⊢
  rw [Bool.and_eq_true] at h ⊢
  refine ⟨h.1, ?_⟩
  have := h.2
  simp only [setX] at this
  cases hx : b.x <;> rw [hx] at this <;> first | exact this | cases this
def storeT (P : Program) (c : Cx) (hp : List Bk) (t : TypeId) (x v : SV) : Option (List Tm × List Bk) :=
  match x, v with
  | .one (.c (.pta l base m i f)), .one v =>
    match find l hp, P.info? t with
    | some b, some inf =>
      match tabOf c b base m with
      | some (lv, tt, L) =>
        if b.rw && (Nat.beq v.cs.length inf.size && (Nat.ble (f + v.cs.length) lv.length && (sure c (.le (.il 0) i) && (sure c (.lt i L) && Nat.blt 0 v.cs.length)))) then
          match rowTm c (over (cellsT c tt i lv 0) f v.cs) lv with
          | some (ms, r) => some (ms, replHp { b with x := setX b base (.tb .set tt i r) } hp)
          | none => none
        else none
      | none => none
    | _, _ => none
  | .one (.c (.ptr l off)), .one v =>
    match find l hp, P.info? t with
    | some b, some inf =>
      match b.str, b.x with
      | none, .arr ins =>
        if b.rw && Nat.beq v.cs.length inf.size then
          match locN ins b.cs.length off v.cs.length with
          | some j => if Nat.ble (j + v.cs.length) b.cs.length then some ([], replHp { b with cs := over b.cs j v.cs } hp) else none
          | none => none
        else none
      | _, _ => none
    | _, _ => none
  | _, _ => none
theorem overV_cons {X : List Value} {o : Nat} {v : Value} {vs : List Value} (h : o < X.length) : overV X o (v :: vs) = overV (overV X o [v]) (o + 1) vs := by
  have hl : (X.take o ++ [v]).length = o + 1 := by rw [List.length_append, List.length_take]; simp; omega
  have e1 : overV X o [v] = (X.take o ++ [v]) ++ X.drop (o + 1) := by
    unfold overV
    simp
  rw [e1]
  have : overV ((X.take o ++ [v]) ++ X.drop (o + 1)) ((X.take o ++ [v]).length + 0) vs = _ := overV_right
  rw [hl, Nat.add_zero] at this
  rw [this]
  unfold overV
  simp only [List.take_zero, List.nil_append, Nat.zero_add, List.drop_drop, List.append_assoc, List.cons_append, List.length_cons]
  rw [show o + (vs.length + 1) = o + 1 + vs.length from by omega]
theorem loc_over {ρ : Env} {ins : List Ins} (hok : insOk ρ ins) : ∀ {vs cs : List Value} {off j : Nat}, (∀ i, i < vs.length → locC ins cs.length (off + i) = some (j + i)) → j + vs.length ≤ cs.length → overV (layV ρ cs ins) off vs = layV ρ (overV cs j vs) ins
  | [], cs, off, j, _, _ => by
    simp only [overV, List.length_nil, Nat.add_zero, List.nil_append, List.take_append_drop]
  | v :: vs, cs, off, j, h, hl => by
    simp only [List.length_cons] at h hl
    have h0 := h 0 (by omega)
    obtain ⟨l1, l2, l3⟩ := locC_ok h0 hok
    simp only [Nat.add_zero] at l1 l2 l3
    have hlt : off < (layV ρ cs ins).length := by
      rw [List.getElem?_eq_getElem l1] at l2
      exact (List.getElem?_eq_some_iff.1 l2).1
    rw [overV_cons hlt, l3, overV_cons l1, ← set_overV l1]
    refine loc_over hok (fun i hi => ?_) (by rw [List.length_set]; omega)
    have := h (i + 1) (by omega)
    rw [List.length_set]
    rw [show off + 1 + i = off + (i + 1) from by omega, this]
    congr 1
    omega
theorem denL_over (ρ : Env) (β : Bn) (cs : List C) (o : Nat) (vs : List C) : denL ρ β (over cs o vs) = overV (denL ρ β cs) o (denL ρ β vs) := by
  unfold over overV
  simp only [denL_app, denL_take, denL_drop, denL_len]
theorem flat_take_over {cur l : List Value} {o : Nat} {vs : List Value} {N : Nat} (h : cur.take N = l) (hN : N ≤ cur.length) (ho : o + vs.length ≤ N) : (overV cur o vs).take N = overV l o vs := by
  have hl : l.length = N := by rw [← h, List.length_take]; omega
  have e : cur = l ++ cur.drop N := by rw [← h, List.take_append_drop]
  have h2 : overV (l ++ cur.drop N) o vs = overV l o vs ++ cur.drop N := overV_left (by omega)
  rw [e, h2, List.take_append_of_le_length (by rw [overV_len (by omega)]; omega), List.take_of_length_le (by rw [overV_len (by omega)]; omega)]
theorem storeT_ok {ρ : Env} (hρ : ρ.good) {β : Bn} {P : Program} {S : Nat → Prop} {w0 w : World} {β0 : Bn} {n0 : Nat} {s : St} {a : Act} (hM : Md ρ S w0 β0 n0 s β a w) {c : Cx} (hc : c.ok ρ) {t : TypeId} {x v : SV} {ms : List Tm} {hp' : List Bk} (h : storeT P c s.hp t x v = some (ms, hp')) (hm : Met ρ ms) :
    ∃ w', (Instr.storeAt t (x.den ρ β) (v.den ρ β)).run P w = .ok () w' ∧ Md ρ S w0 β0 n0 { s with hp := hp' } β a w' := by
  unfold storeT at h
  split at h
  · rename_i l base m i f v
    split at h
    · rename_i b inf hf hinf
      have hmem := find_mem hf
      have hB0 := hM.hp b hmem.1
      have hcl : (v.den ρ β).cells.toList = denL ρ β v.cs := by rw [V1.cells_den hρ]
      have hcs : (v.den ρ β).cells.size = v.cs.length := by rw [V1.cells_den hρ]; simp [denL_len]
      split at h
      · rename_i lv tt L ht
        have T := tabOf_ok hc hB0 ht
        split at h
        · rename_i q
          simp only [Bool.and_eq_true] at q
          have q1 := Nat.eq_of_beq_eq_true q.2.1
          have q2 := Nat.le_of_ble_eq_true q.2.2.1
          have q3 := le_of (sure_ok hc q.2.2.2.1)
          have q4 := lt_of (sure_ok hc q.2.2.2.2.1)
          have q5 : 0 < v.cs.length := Nat.le_of_ble_eq_true q.2.2.2.2.2
          change (0 : Int) ≤ _ at q3
          rw [T.len] at q4
          have hi : (den ρ i).i.toNat < (den ρ tt).c.length := by omega
          have hk := T.ok _ (getD_mem hi)
          have hkl := kAll_len hk
          have hmm := T.mm
          split at h
          · rename_i ms' r hr
            injection h with h
            injection h with h1 h2
            subst h1 h2
            obtain ⟨r1, r2⟩ := rowTm_ok (β := β) hc hr hm
            have hden : denL ρ β (cellsT c tt i lv 0) = (den ρ tt).c.getD (den ρ i).i.toNat [] := cellsT_ok hc hk fun j v hv => by rwa [Nat.zero_add]
            rw [denL_over, hden] at r1 r2
            have hreal := T.real (by omega)
            have hmay := hM.may0 b hmem.1 q.1 hreal
            have hnew : (den ρ (.tb .set tt i r)).c = (den ρ tt).c.set (den ρ i).i.toNat (overV ((den ρ tt).c.getD (den ρ i).i.toNat []) f (denL ρ β v.cs)) := by
              show (den ρ tt).c.set (den ρ i).i.toNat ((den ρ r).c.headD []) = _
              rw [r1]
              rfl
            have hnewk : ∀ z ∈ (den ρ (.tb .set tt i r)).c, kAll lv z := fun z hz => by
              rw [hnew] at hz
              rcases List.mem_or_eq_of_mem_set hz with hz | rfl
              · exact T.ok z hz
              · exact r2
            have hflat := flat_over (m := lv.length) (vs := denL ρ β v.cs) (f := f) (fun r hr => kAll_len (T.ok r hr)) hi (by rw [denL_len]; exact q2)
            rw [← hnew] at hflat
            have hin : (den ρ i).i.toNat * lv.length + f + v.cs.length ≤ (den ρ tt).c.length * lv.length := by
              have : ((den ρ i).i.toNat + 1) * lv.length ≤ (den ρ tt).c.length * lv.length := Nat.mul_le_mul_right _ hi
              rw [Nat.succ_mul] at this
              omega
            refine ⟨w.setCells (β b.l) (base + (den ρ i).i.toNat * m + f) (denL ρ β v.cs), ?_, ?_⟩
            · have := run_storeVar_any (P := P) w (β b.l) (base + (den ρ i).i.toNat * m + f) t (v.den ρ β) (fun j hj => by
                rw [hcs] at hj
                have hlt : f + j < ((den ρ tt).c.getD (den ρ i).i.toNat []).length := by omega
                have := T.cell _ (f + j) _ hi (List.getElem?_eq_getElem hlt)
                rw [← Nat.add_assoc] at this
                exact ⟨by rw [this]; rfl, T.froz _ (by omega)⟩) (by rw [hcs, hinf]; simp; omega) (by rw [hcl]; exact denL_one hρ β _)
              rw [hcl] at this
              rw [← hmem.2]
              exact this
            · refine hM.repl (b := b) (nb := { b with x := setX b base (.tb .set tt i r) }) hmem.1 rfl (fun _ => hreal) (fun h => h) (setCells_only hmay _ _ hM.only) ?_ (fun x hx hne => hM.others (b := b) hmem.1 hreal (fun g hg => setCells_heap (w := w) hg _ _ _) x hx hne) (setX_own b base _)
              unfold tabOf at ht
              unfold BkOk at hB0 ⊢
              unfold setX
              split at ht
              · rename_i lv' t' hs hx
                rw [hs, hx] at hB0
                have hB : RowT w (β b.l) (β (b.l + 1)) b.ty lv' (den ρ t').c := hB0
                split at ht
                · rename_i z
                  simp only [Bool.and_eq_true] at z
                  have z1 := Nat.eq_of_beq_eq_true z.1
                  injection ht with ht
                  injection ht with e1 e2
                  injection e2 with e2 e3
                  subst e1 e2 e3 z1
                  rw [hs, hx]
                  show RowT _ (β b.l) (β (b.l + 1)) b.ty lv' (den ρ (.tb .set t' i r)).c
                  have hlen := hB.len
                  obtain ⟨cur, c1, c2, c3, c4⟩ := hB.blk (by omega)
                  have hcl2 : (den ρ t').c.length * lv'.length ≤ cur.length := by rw [c2]; exact Nat.mul_le_mul_right _ hlen
                  have hnl : (den ρ (.tb .set t' i r)).c.length = (den ρ t').c.length := by rw [hnew, List.length_set]
                  have hst := setCells_same (denL ρ β v.cs) (0 + (den ρ i).i.toNat * m + f) c1 (by rw [denL_len, hmm]; omega)
                  refine RowT.of_blk hst ?_ c3 ?_ (by rw [hnl]; exact hlen) hnewk
                  · have := overV_len (cs := cur) (o := 0 + (den ρ i).i.toNat * m + f) (vs := denL ρ β v.cs) (by rw [denL_len, hmm]; omega)
                    exact this.trans c2
                  · rw [hnl]
                    have := flat_take_over (o := 0 + (den ρ i).i.toNat * m + f) (vs := denL ρ β v.cs) c4 hcl2 (by rw [denL_len, hmm]; omega)
                    refine Eq.trans this ?_
                    rw [← hflat, hmm, Nat.zero_add]
                · cases ht
              · rename_i ins hs hx
                rw [hs, hx] at hB0
                have hB : Blk w (β b.l) b.ty (layV ρ (denL ρ β b.cs) ins) ∧ insOk ρ ins := hB0
                split at ht
                · rename_i x hi'
                  split at ht
                  · injection ht with ht
                    injection ht with e1 e2
                    injection e2 with e2 e3
                    subst e1 e2 e3
                    rw [hs, hx]
                    show Blk _ (β b.l) b.ty (layV ρ (denL ρ β b.cs) (insSet ins base (.tb .set x.t i r))) ∧ insOk ρ (insSet ins base (.tb .set x.t i r))
                    rw [← denL_len (ρ := ρ) (β := β)] at hi'
                    obtain ⟨⟨i1, i2⟩, i3, i4⟩ := insAt_ok hi' hB.2
                    have hnl : (den ρ (.tb .set x.t i r)).c.length = x.n := by rw [hnew, List.length_set, i1]
                    obtain ⟨j1, j2⟩ := i4 (.tb .set x.t i r) ((den ρ i).i.toNat * m + f) (denL ρ β v.cs) (by rw [denL_len, hmm, ← i1]; exact hin) (by rw [hmm]; exact hflat.symm) hnl hnewk
                    refine ⟨?_, j2⟩
                    have hlay : base + (den ρ i).i.toNat * m + f + v.cs.length ≤ (layV ρ (denL ρ β b.cs) ins).length := by
                      have hlt : f + (v.cs.length - 1) < ((den ρ x.t).c.getD (den ρ i).i.toNat []).length := by omega
                      have := T.cell _ _ _ hi (List.getElem?_eq_getElem hlt)
                      rw [hB.1.cell] at this
                      have := (List.getElem?_eq_some_iff.1 this).1
                      omega
                    have hst := setCells_same (denL ρ β v.cs) (base + (den ρ i).i.toNat * m + f) hB.1 (by rw [denL_len]; exact hlay)
                    refine hst.cast ?_
                    rw [Nat.add_assoc base]
                    exact j1
                  · cases ht
                · cases ht
              · cases ht
          · cases h
        · cases h
      · cases h
    · cases h
  · rename_i l off v
    split at h
    · rename_i b inf hf hinf
      have hmem := find_mem hf
      have hB0 := hM.hp b hmem.1
      have hcl : (v.den ρ β).cells.toList = denL ρ β v.cs := by rw [V1.cells_den hρ]
      have hcs : (v.den ρ β).cells.size = v.cs.length := by rw [V1.cells_den hρ]; simp [denL_len]
      unfold BkOk at hB0
      split at h
      · rename_i ins hs hx
        rw [hs, hx] at hB0
        have hB : Blk w (β b.l) b.ty (layV ρ (denL ρ β b.cs) ins) ∧ insOk ρ ins := hB0
        have hreal : b.real β := .inl (by unfold Bk.nilable; rw [hs, hx]; rfl)
        split at h
        · rename_i q
          simp only [Bool.and_eq_true] at q
          have q1 := Nat.eq_of_beq_eq_true q.2
          split at h
          · rename_i j hj
            split at h
            · rename_i z
              have z := Nat.le_of_ble_eq_true z
              injection h with h
              injection h with h1 h2
              subst h1 h2
              have hloc := locN_ok hj
              have hmay := hM.may0 b hmem.1 q.1 hreal
              have hcell : ∀ i, i < v.cs.length → ∃ u, (layV ρ (denL ρ β b.cs) ins)[off + i]? = some u := fun i hi => by
                have hl := hloc i hi
                rw [← denL_len (ρ := ρ) (β := β)] at hl
                obtain ⟨l1, l2, _⟩ := locC_ok hl hB.2
                exact ⟨_, by rw [l2]; exact List.getElem?_eq_getElem l1⟩
              refine ⟨w.setCells (β b.l) off (denL ρ β v.cs), ?_, ?_⟩
              · have := run_storeVar_any (P := P) w (β b.l) off t (v.den ρ β) (fun i hi => by
                  rw [hcs] at hi
                  obtain ⟨u, hu⟩ := hcell i hi
                  exact ⟨by rw [hB.1.cell, hu]; rfl, hB.1.frozen _⟩) (by rw [hcs, hinf]; simp; omega) (by rw [hcl]; exact denL_one hρ β _)
                rw [hcl] at this
                rw [← hmem.2]
                exact this
              · refine hM.repl (b := b) (nb := { b with cs := over b.cs j v.cs }) hmem.1 rfl (fun _ => hreal) (fun h => h) (setCells_only hmay _ _ hM.only) ?_ (fun x hx hne => hM.others (b := b) hmem.1 hreal (fun g hg => setCells_heap (w := w) hg _ _ _) x hx hne)
                unfold BkOk
                rw [hs, hx]
                show Blk _ (β b.l) b.ty (layV ρ (denL ρ β (over b.cs j v.cs)) ins) ∧ insOk ρ ins
                refine ⟨?_, hB.2⟩
                rw [denL_over]
                have hlay : off + v.cs.length ≤ (layV ρ (denL ρ β b.cs) ins).length ∨ v.cs.length = 0 := by
                  rcases Nat.eq_zero_or_pos v.cs.length with h0 | h0
                  · exact .inr h0
                  · obtain ⟨u, hu⟩ := hcell (v.cs.length - 1) (by omega)
                    have := (List.getElem?_eq_some_iff.1 hu).1
                    exact .inl (by omega)
                have hov := loc_over hB.2 (vs := denL ρ β v.cs) (cs := denL ρ β b.cs) (off := off) (j := j) (fun i hi => by
                  rw [denL_len] at hi ⊢
                  exact hloc i hi) (by rw [denL_len, denL_len]; exact z)
                rw [← hov]
                rcases hlay with hlay | h0
                · exact setCells_same (denL ρ β v.cs) off hB.1 (by rw [denL_len]; exact hlay)
                · have : denL ρ β v.cs = [] := List.eq_nil_of_length_eq_zero (by rw [denL_len]; exact h0)
                  rw [this]
                  show Blk w _ _ _
                  unfold overV
                  simp only [List.length_nil, Nat.add_zero, List.nil_append, List.take_append_drop]
                  exact hB.1
            · cases h
          · cases h
        · cases h
      · cases h
    · cases h
  · cases h
end Sy
end Go.Proofs.Ytnmfmjlpfhdgeaa
