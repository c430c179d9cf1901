/- Templates made out of a state; nil slices told anew as tables; contracts that give new tables; tables that are the same. -/
import Derived.Test.YtnmfmjlpfhdgeaaSyW
namespace Go.Proofs.Ytnmfmjlpfhdgeaa
namespace Sy
open Go Go.RowKit
set_option linter.unusedVariables false
set_option linter.unusedSimpArgs false

/-! What terms say of tables. -/
section
variable (ρ : Env) (x y z a : Tm) (n f : Nat) (k : Kd)
theorem c_cv : (den ρ (.cv n)).c = ρ.c n := rfl
theorem c_nil : (den ρ (.tb .nil x y z)).c = [] := rfl
theorem c_app : (den ρ (.tb .app x y z)).c = (den ρ x).c ++ (den ρ y).c := rfl
theorem c_cut : (den ρ (.tb .cut x y z)).c = cutL (den ρ x).c (den ρ y).i.toNat (den ρ z).i.toNat := rfl
theorem c_set : (den ρ (.tb .set x y z)).c = (den ρ x).c.set (den ρ y).i.toNat ((den ρ z).c.headD []) := rfl
theorem c_row : (den ρ (.tb .row x y z)).c = [[]] := rfl
theorem c_cons : (den ρ (.tb (.cons k) x y z)).c = [mkV k (den ρ x) :: (den ρ y).c.headD []] := rfl
theorem i_tl : (den ρ (.tb .len x y z)).i = ((den ρ x).c.length : Int) := rfl
theorem i_get : (den ρ (.tb (.get k f) x y z)).i = (getV k (((den ρ x).c.getD (den ρ y).i.toNat []).getD f (.bool false))).i := rfl
theorem b_get : (den ρ (.tb (.get k f) x y z)).b = (getV k (((den ρ x).c.getD (den ρ y).i.toNat []).getD f (.bool false))).b := rfl
theorem s_get : (den ρ (.tb (.get k f) x y z)).s = (getV k (((den ρ x).c.getD (den ρ y).i.toNat []).getD f (.bool false))).s := rfl
theorem i_ite : (den ρ (.ite x y z)).i = if (den ρ x).b = true then (den ρ y).i else (den ρ z).i := by
  show (if (den ρ x).b = true then den ρ y else den ρ z).i = _
  split <;> rfl
theorem b_ite : (den ρ (.ite x y z)).b = if (den ρ x).b = true then (den ρ y).b else (den ρ z).b := by
  show (if (den ρ x).b = true then den ρ y else den ρ z).b = _
  split <;> rfl
theorem i_min : (den ρ (.ite (.lt x y) x y)).i = min (den ρ x).i (den ρ y).i := by
  rw [i_ite]
  by_cases h : (den ρ x).i < (den ρ y).i
  · rw [if_pos (by rw [t_lt]; exact h)]; omega
  · rw [if_neg (by rw [t_lt]; exact h)]; omega
theorem i_max : (den ρ (.ite (.lt x y) y x)).i = max (den ρ x).i (den ρ y).i := by
  rw [i_ite]
  by_cases h : (den ρ x).i < (den ρ y).i
  · rw [if_pos (by rw [t_lt]; exact h)]; omega
  · rw [if_neg (by rw [t_lt]; exact h)]; omega
theorem i_wrapE (k : IntKind) : (den ρ (.wrap k x)).i = k.wrap (den ρ x).i := rfl
theorem b_teq : (den ρ (.tb .eq x y z)).b = sqT (den ρ x).c (den ρ y).c := rfl
end
/-! Tables that are the same. -/
theorem sqT_iff {lv : List Kd} : ∀ {a b : List (List Value)}, (∀ r ∈ a, kAll lv r) → (∀ r ∈ b, kAll lv r) → (sqT a b = true ↔ a = b)
  | [], [], _, _ => by simp [sqT]
  | r :: a, q :: b, ha, hb => by
    simp only [sqT, Bool.and_eq_true, sqR_iff (ha r (List.mem_cons_self ..)) (hb q (List.mem_cons_self ..)), sqT_iff (fun x hx => ha x (List.mem_cons_of_mem _ hx)) (fun x hx => hb x (List.mem_cons_of_mem _ hx)), List.cons.injEq]
  | [], _ :: _, _, _ => by simp [sqT]
  | _ :: _, [], _, _ => by simp [sqT]
/-- A row is told by its fields. -/
theorem getV_inj {k : Kd} {v u : Value} (hv : kOK k v) (hu : kOK k u) (h : KEq k (getV k v) (getV k u)) : v = u := by
  cases k with
  | int k =>
    obtain ⟨m, rfl, hm⟩ := hv
    obtain ⟨n, rfl, hn⟩ := hu
    obtain ⟨m1, m2⟩ := of_wf hm
    obtain ⟨n1, n2⟩ := of_wf hn
    change k.wrap m = k.wrap n at h
    rw [wrap_in m1 m2, wrap_in n1 n2] at h
    rw [h]
  | bool =>
    obtain ⟨m, rfl⟩ := hv
    obtain ⟨n, rfl⟩ := hu
    change m = n at h
    rw [h]
  | str =>
    obtain ⟨m, rfl, hm⟩ := hv
    obtain ⟨n, rfl, hn⟩ := hu
    change (if m.size ≤ 9223372036854775807 then m else none8) = (if n.size ≤ 9223372036854775807 then n else none8) at h
    rw [if_pos (show m.size ≤ 9223372036854775807 from hm), if_pos (show n.size ≤ 9223372036854775807 from hn)] at h
    rw [h]
  | ptr =>
    obtain ⟨m, rfl⟩ := hv
    obtain ⟨n, rfl⟩ := hu
    change ((m : Nat) : Int) = ((n : Nat) : Int) at h
    rw [Int.ofNat.inj h]
  | sls =>
    obtain ⟨a, n, c, rfl⟩ := hv
    obtain ⟨b, m, d, rfl⟩ := hu
    exact h
def rowEq (lv : List Kd) (r q : List Value) (f : Nat) : Prop :=
  match lv with
  | [] => True
  | k :: lv => KEq k (getV k (r.getD f (.bool false))) (getV k (q.getD f (.bool false))) ∧ rowEq lv r q (f + 1)
theorem row_ext : ∀ {lv : List Kd} {r q : List Value} {f : Nat}, kAll lv (r.drop f) → kAll lv (q.drop f) → rowEq lv r q f → r.drop f = q.drop f
  | [], r, q, f, hr, hq, _ => by
    have h1 := kAll_len hr
    have h2 := kAll_len hq
    rw [List.eq_nil_of_length_eq_zero h1, List.eq_nil_of_length_eq_zero h2]
  | k :: lv, r, q, f, hr, hq, h => by
    have l1 := kAll_len hr
    have l2 := kAll_len hq
    rw [List.length_drop, List.length_cons] at l1 l2
    have hf1 : f < r.length := by omega
    have hf2 : f < q.length := by omega
    rw [List.drop_eq_getElem_cons hf1] at hr ⊢
    rw [List.drop_eq_getElem_cons hf2] at hq ⊢
    have h0 := h.1
    rw [show r.getD f (.bool false) = r[f] from by rw [List.getD, List.getElem?_eq_getElem hf1]; rfl, show q.getD f (.bool false) = q[f] from by rw [List.getD, List.getElem?_eq_getElem hf2]; rfl] at h0
    rw [getV_inj hr.1 hq.1 h0, row_ext hr.2 hq.2 h.2]

/-! A template made out of a state. -/
def dstsOps (l : List Oper) : List Nat := l.filterMap fun o => o.dst
def dstsOf : Code → List Nat
  | .region _ ops _ => dstsOps ops.toList
  | .seq a b => dstsOf a ++ dstsOf b
  | .cond _ a b => dstsOf a ++ dstsOf b
  | .block _ a => dstsOf a
  | .loop a => dstsOf a
  | .scope a => dstsOf a
  | _ => []
def vFind (n : Nat) : List (Nat × SV) → Option SV
  | [] => none
  | (m, v) :: l => if Nat.beq m n then some v else vFind n l
def tmOf (ds : List Nat) (vs : List (Nat × SV)) : Nat → List SV → List SV
  | _, [] => []
  | n, x :: l => (match vFind n vs with
    | some v => v
    | none => if ds.any (fun d => Nat.beq d n) then .any n else x) :: tmOf ds vs (n + 1) l
/-- Rows and tables behind the other blocks: what leads to them is looked at first. -/
def rowsLast (hp : List Bk) : List Bk := hp.filter (fun b => !b.nilable) ++ hp.filter Bk.nilable
/-- The state s at a loop's head, in which the slots that the rounds write hold anything, but those told; the blocks told are put in place of what they were. -/
def tplS (s : St) (c : Code) (vs : List (Nat × SV)) (hp : List Bk) (cx : Cx) (nx : Nat) : St := ⟨tmOf (dstsOf c) vs 0 s.tm, rowsLast (s.hp.map (fun b => match find b.l hp with
  | some b' => b'
  | none => b)), cx, nx⟩
/-! A nil slice is a table of no rows. -/
def nilCT (n m : Nat) : C → C
  | .nslc => .slt n m (.il 0) (.il 0) (.il 0)
  | x => x
def nilV (n m : Nat) : SV → SV
  | .one (.c .nslc) => .one (.c (.slt n m (.il 0) (.il 0) (.il 0)))
  | x => x
/-- The nil slice in slot d is told anew. -/
def tabSlot (s : St) (d n : Nat) (ty : TypeId) (lv : List Kd) : St := { s with tm := s.tm.set d (nilV n lv.length (s.tm.getD d undS)), hp := insBk ⟨n, ty, [], true, none, .tab lv tn⟩ s.hp }
/-- The nil slice in cell j of block l is told anew. -/
def tabCell (s : St) (l j n : Nat) (ty : TypeId) (lv : List Kd) : St := { s with hp := insBk ⟨n, ty, [], true, none, .tab lv tn⟩ (s.hp.map fun b => if Nat.beq b.l l then { b with cs := b.cs.set j (nilCT n lv.length (b.cs.getD j (.opq 0))) } else b) }
section
variable {ρ : Env} {S : Nat → Prop} {w0 : World} {β0 : Bn} {n0 : Nat} {s : St} {β : Bn} {a : Act} {w : World}
theorem Md.letter (hM : Md ρ S w0 β0 n0 s β a w) (n g c : Nat) (hn : n0 ≤ n) (hf : s.free n = true) (hf1 : s.free (n + 1) = true) : Md ρ S w0 β0 n0 s (upd (upd β n g) (n + 1) c) a w := by
  unfold St.free at hf hf1
  simp only [Bool.and_eq_true, List.all_eq_true, Bool.not_eq_true'] at hf hf1
  have hl : ∀ b ∈ s.hp, upd (upd β n g) (n + 1) c b.l = β b.l ∧ upd (upd β n g) (n + 1) c (b.l + 1) = β (b.l + 1) ∧ denL ρ (upd (upd β n g) (n + 1) c) b.cs = denL ρ β b.cs := fun b hb => by
    have g1 := hf.2 b hb
    have g2 := hf1.2 b hb
    exact ⟨by rw [upd_old (beq_ne g2.1), upd_old (beq_ne g1.1)], by rw [upd_old (beq_ne g2.2.2), upd_old (beq_ne g1.2.2)], (denL_upd ρ g2.2.1).trans (denL_upd ρ g1.2.1)⟩
  have hreal : ∀ b ∈ s.hp, b.real (upd (upd β n g) (n + 1) c) → b.real β := fun b hb hr => hr.imp id fun h => by rw [← (hl b hb).2.1]; exact h
  refine ⟨?_, fun b hb => (hM.hp b hb).agree (hl b hb).1 (fun _ => (hl b hb).2.1) (hl b hb).2.2, fun x hx y hy hne hrx hry => ?_, fun b hb hw hr => ?_, hM.cx, hM.only, fun k hk => ?_⟩
  · rw [hM.act]
    congr 2
    apply List.map_congr_left
    intro x hx
    rw [SV.den_upd ρ (by simpa using hf1.1 x hx), SV.den_upd ρ (by simpa using hf.1 x hx)]
  · exact (hM.ne x hx y hy hne (hreal x hx hrx) (hreal y hy hry)).agree (hl x hx).1 (hl x hx).2.2 (hl y hy).1 (hl y hy).2.2
  · exact fun g hg => hM.may b hb hw (hreal b hb hr) g ((fp_agree (hl b hb).1 (hl b hb).2.2 g).1 hg)
  · rw [upd_old (by omega), upd_old (by omega)]
    exact hM.old k hk
/-- A row of no rows is in every world. -/
theorem Md.addNil (hM : Md ρ S w0 β0 n0 s β a w) (n : Nat) (ty : TypeId) (lv : List Kd) (h0 : β (n + 1) = 0) : Md ρ S w0 β0 n0 { s with hp := insBk ⟨n, ty, [], true, none, .tab lv tn⟩ s.hp } β a w := by
  have hnot : ¬ Bk.real β ⟨n, ty, [], true, none, .tab lv tn⟩ := fun hr => by
    rcases hr with hr | hr
    · cases hr
    · exact hr h0
  refine ⟨hM.act, fun b hb => ?_, fun x hx y hy hne hrx hry => ?_, fun b hb hw hr => ?_, hM.cx, hM.only, hM.old⟩
  · rcases mem_ins hb with rfl | hb
    · show RowT w (β n) (β (n + 1)) ty lv []
      rw [h0]
      exact RowT.none_ ..
    · exact hM.hp b hb
  · rcases mem_ins hx with rfl | hx
    · exact absurd hrx hnot
    rcases mem_ins hy with rfl | hy
    · exact absurd hry hnot
    exact hM.ne x hx y hy hne hrx hry
  · rcases mem_ins hb with rfl | hb
    · exact absurd hr hnot
    · exact hM.may b hb hw hr
theorem nilV_den {n m : Nat} (h0 : β (n + 1) = 0) (x : SV) : (nilV n m x).den ρ β = x.den ρ β := by
  unfold nilV
  split
  · show (if β (n + 1) = 0 then _ else _) = _
    rw [if_pos h0]
    rfl
  · rfl
theorem nilCT_den {n m : Nat} (h0 : β (n + 1) = 0) (x : C) : (nilCT n m x).den ρ β = x.den ρ β := by
  unfold nilCT
  split
  · show (if β (n + 1) = 0 then _ else _) = _
    rw [if_pos h0]
    rfl
  · rfl
theorem set_getD_map {α γ : Type} (f : α → γ) (d : α) (l : List α) (i : Nat) (x : α) (h : f x = f (l.getD i d)) : (l.set i x).map f = l.map f := by
  rw [List.map_set]
  apply List.ext_getElem?
  intro j
  by_cases hj : i = j
  · subst hj
    by_cases hi : i < l.length
    · rw [List.getElem?_set_self (by simpa using hi), List.getElem?_map, List.getElem?_eq_getElem hi, h, List.getD, List.getElem?_eq_getElem hi]
      rfl
    · rw [List.getElem?_eq_none (by simpa using hi), List.getElem?_eq_none (by simpa using hi)]
  · rw [List.getElem?_set_ne hj]
theorem bitF_set (n m j : Nat) (cs : List C) : bitF β (cs.set j (nilCT n m (cs.getD j (.opq 0)))) = bitF β cs := by
  funext g
  cases cs with
  | nil => rfl
  | cons x xs => cases xs with
    | nil => cases j with
      | zero =>
        show bitF β [nilCT n m x] g = _
        by_cases hp : ∃ l o, x = .ptr l o
        · obtain ⟨l, o, rfl⟩ := hp
          rfl
        · exact propext ⟨fun q => absurd q (bitF_one (fun l o e => hp ⟨l, o, by cases x <;> first | exact e | cases e⟩) g), fun q => absurd q (bitF_one (fun l o e => hp ⟨l, o, e⟩) g)⟩
      | succ j => rfl
    | cons y ys =>
      cases j with
      | zero => exact propext ⟨fun q => absurd q (bitF_two g), fun q => absurd q (bitF_two g)⟩
      | succ j => cases j <;> exact propext ⟨fun q => absurd q (bitF_two g), fun q => absurd q (bitF_two g)⟩
theorem Md.tabSlot (hM : Md ρ S w0 β0 n0 s β a w) (d n : Nat) (ty : TypeId) (lv : List Kd) (hn : n0 ≤ n) (hf : s.free n = true) (hf1 : s.free (n + 1) = true) : ∃ β', Md ρ S w0 β0 n0 (tabSlot s d n ty lv) β' a w := by
  have h0 : upd (upd β n 0) (n + 1) 0 (n + 1) = 0 := upd_new ..
  have h1 := Sy.Md.addNil (Sy.Md.letter hM n 0 0 hn hf hf1) n ty lv h0
  refine ⟨_, ⟨?_, h1.hp, h1.ne, h1.may, h1.cx, h1.only, h1.old⟩⟩
  rw [h1.act]
  show (⟨_, []⟩ : Act) = ⟨((s.tm.set d (nilV n lv.length (s.tm.getD d undS))).map (SV.den ρ (upd (upd β n 0) (n + 1) 0))).toArray, []⟩
  rw [set_getD_map (SV.den ρ (upd (upd β n 0) (n + 1) 0)) undS s.tm d _ (nilV_den h0 _)]
theorem Md.tabCell (hM : Md ρ S w0 β0 n0 s β a w) (l j n : Nat) (ty : TypeId) (lv : List Kd) (hn : n0 ≤ n) (hf : s.free n = true) (hf1 : s.free (n + 1) = true) : ∃ β', Md ρ S w0 β0 n0 (tabCell s l j n ty lv) β' a w := by
  have h0 : upd (upd β n 0) (n + 1) 0 (n + 1) = 0 := upd_new ..
  have hM1 := Sy.Md.letter hM n 0 0 hn hf hf1
  generalize upd (upd β n 0) (n + 1) 0 = β1 at h0 hM1
  have hcs : ∀ b : Bk, denL ρ β1 (b.cs.set j (nilCT n lv.length (b.cs.getD j (.opq 0)))) = denL ρ β1 b.cs := fun b => set_getD_map (C.den ρ β1) (.opq 0) b.cs j _ (nilCT_den h0 _)
  have hM2 : Md ρ S w0 β0 n0 { s with hp := s.hp.map fun b => if Nat.beq b.l l then { b with cs := b.cs.set j (nilCT n lv.length (b.cs.getD j (.opq 0))) } else b } β1 a w := by
    have same : ∀ b : Bk, (if Nat.beq b.l l then { b with cs := b.cs.set j (nilCT n lv.length (b.cs.getD j (.opq 0))) } else b).l = b.l ∧ (if Nat.beq b.l l then { b with cs := b.cs.set j (nilCT n lv.length (b.cs.getD j (.opq 0))) } else b).rw = b.rw ∧
        (Bk.real β1 (if Nat.beq b.l l then { b with cs := b.cs.set j (nilCT n lv.length (b.cs.getD j (.opq 0))) } else b) → b.real β1) ∧ (BkOk ρ β1 w b → BkOk ρ β1 w (if Nat.beq b.l l then { b with cs := b.cs.set j (nilCT n lv.length (b.cs.getD j (.opq 0))) } else b)) ∧ (if Nat.beq b.l l then { b with cs := b.cs.set j (nilCT n lv.length (b.cs.getD j (.opq 0))) } else b).own = b.own ∧ bitF β1 (if Nat.beq b.l l then { b with cs := b.cs.set j (nilCT n lv.length (b.cs.getD j (.opq 0))) } else b).cs = bitF β1 b.cs := fun b => by
      split
      · refine ⟨rfl, rfl, fun h => h, fun h => ?_, rfl, bitF_set _ _ _ _⟩
        unfold BkOk at h ⊢
        cases hs : b.str with
        | some t =>
          rw [hs] at h
          simp only [] at h ⊢
          rw [show (b.cs.set j (nilCT n lv.length (b.cs.getD j (.opq 0)))).isEmpty = b.cs.isEmpty from by cases b.cs <;> cases j <;> rfl]
          exact h
        | none =>
          rw [hs] at h
          cases hx : b.x with
          | no => rw [hx] at h; simp only [] at h ⊢; rw [hcs]; exact h
          | tab lv t => rw [hx] at h; exact h
          | arr ins => rw [hx] at h; simp only [] at h ⊢; rw [hcs]; exact h
          | mp ks ag v t => rw [hx] at h; exact h
          | own k t => rw [hx] at h; simp only [] at h ⊢; rw [bitF_set]; exact h
          | al t => rw [hx] at h; simp only [] at h ⊢; rw [hcs]; exact h
      · exact ⟨rfl, rfl, fun h => h, fun h => h, rfl, rfl⟩
    refine ⟨hM1.act, fun b hb => ?_, fun x hx y hy hne hrx hry => ?_, fun b hb hw hr => ?_, hM1.cx, hM1.only, hM1.old⟩
    · obtain ⟨b', hb', rfl⟩ := List.mem_map.1 hb
      exact (same b').2.2.2.1 (hM1.hp b' hb')
    · obtain ⟨x', hx', rfl⟩ := List.mem_map.1 hx
      obtain ⟨y', hy', rfl⟩ := List.mem_map.1 hy
      rw [(same x').1, (same y').1] at hne
      exact (hM1.ne x' hx' y' hy' hne ((same x').2.2.1 hrx) ((same y').2.2.1 hry)).like (same x').1 (same x').2.2.2.2.1 (same y').1 (same y').2.2.2.2.1 (same x').2.2.2.2.2 (same y').2.2.2.2.2
    · obtain ⟨b', hb', rfl⟩ := List.mem_map.1 hb
      exact fun g hg => hM1.may b' hb' (by rw [← (same b').2.1]; exact hw) ((same b').2.2.1 hr) g ((fp_like (same b').1 (same b').2.2.2.2.1 g (same b').2.2.2.2.2).1 hg)
  exact ⟨β1, Sy.Md.addNil hM2 n ty lv h0⟩
end
/-! A contract of a function that reads blocks and gives a new table. -/
/-- What such a function leaves. -/
structure NewTab (w w' : World) (v : Value) (ty : TypeId) (lv : List Kd) (l : List (List Value)) : Prop where
  b : Below w.heap.size w w'
  r : ∃ g c, v = sltV g c l.length ∧ RowT w' g c ty lv l ∧ (c = 0 ∨ w.heap.size ≤ g)
/-- ok: at these arguments, in this state; k: the letter of the table (ρ.c) and of its length (ρ.i); the table's value and then the others. -/
def ntSp (f : FuncId) (ok : St → List SV → Bool) (ty : TypeId) (lv : List Kd) (k : Nat) (out : V1 → SV) (bs : List Bd) : Spec where
  f := f
  pre := fun s xs => if ok s xs && (s.free s.nx && s.free (s.nx + 1)) then some [] else none
  go := fun n0 s xs => if ok s xs && (s.free s.nx && (s.free (s.nx + 1) && Nat.ble n0 s.nx)) then some ({ s.growT s.nx ty none lv (.cv k) with cx := ⟨bs ++ s.cx.bs, s.cx.pc⟩ }, out (.c (.slt s.nx lv.length (.il 0) (.iv k) (.il 0)))) else none
theorem ntSp_ok {P : Program} {ρ : Env} {f : FuncId} {ok : St → List SV → Bool} {ty : TypeId} {lv : List Kd} {k : Nat} {out : V1 → SV} {outV : Value → Value} {bs : List Bd} (hbs : Bds ρ bs) (hk : ρ.i k = ((ρ.c k).length : Int))
    (hout : ∀ β x, (out x).den ρ β = outV (x.den ρ β))
    (h : ∀ (S : Nat → Prop) (w0 : World) (β0 : Bn) (n0 : Nat) (s : St) (xs : List SV) (β : Bn) (a : Act) (w : World), ok s xs = true → Md ρ S w0 β0 n0 s β a w → Calls P f (xs.map (SV.den ρ β)).toArray w fun e w' => ∃ v, e = .returned (outV v) ∧ NewTab w w' v ty lv (ρ.c k)) : (ntSp f ok ty lv k out bs).Ok P ρ := by
  intro B s xs m s' v' hB hpre hgo hm β a w hM
  subst hB
  simp only [ntSp] at hpre hgo
  split at hgo
  · rename_i q
    simp only [Bool.and_eq_true] at q
    injection hgo with hgo
    injection hgo with h1 h2
    subst h1 h2
    refine (h _ _ _ _ s xs β a w q.1 hM).mono ?_
    rintro e w' ⟨v, rfl, hb, g, c, rfl, hrow, hat⟩
    have hM1 : Md B.ρ B.S B.w0 B.β0 B.n0 (s.growT s.nx ty none lv (.cv k)) (upd (upd β s.nx g) (s.nx + 1) c) a w' := Sy.Md.growT hM s.nx (Nat.le_of_ble_eq_true q.2.2.2) q.2.1 q.2.2.1 (g := 0) (c := 0) ⟨hrow, ⟨hb.os, hb.tape, hb.output, hb.size, fun k hk _ => hb.block k hk⟩, hat.imp id .inr⟩ rfl (.inl rfl)
    refine ⟨_, a, ?_, Sy.Md.bds hM1 bs hbs⟩
    rw [hout]
    congr 2
    show sltV g c _ = C.den B.ρ _ (.slt s.nx lv.length (.il 0) (.iv k) (.il 0))
    rw [slt_den, upd_new, upd_old (show s.nx ≠ s.nx + 1 from by omega), upd_new]
    show _ = sltZ g c _ ((0 : Int)).toNat (B.ρ.i k).toNat ((0 : Int)).toNat
    rw [hk, show ((0 : Int)).toNat = 0 from rfl, sltZ_zero, Int.toNat_natCast]
  · cases hgo
end Sy
end Go.Proofs.Ytnmfmjlpfhdgeaa
