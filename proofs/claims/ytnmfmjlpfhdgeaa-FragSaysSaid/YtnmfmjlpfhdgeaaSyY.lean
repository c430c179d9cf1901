/- The reference's Eq at tables of flat data: by runs with letters, whatever the rows are. -/
import Derived.Test.YtnmfmjlpfhdgeaaSyX
namespace Go.Proofs.Ytnmfmjlpfhdgeaa
namespace Sy
open Go Go.RowKit
set_option linter.unusedVariables false
set_option linter.unusedSimpArgs false

/-- Are two rows the same, field by field? -/
def fldEq (x y i : Tm) (k : Kd) (f : Nat) : Tm :=
  match k with
  | .bool => .bq (tget .bool f x i) (tget .bool f y i)
  | .str => .seq (tget .str f x i) (tget .str f y i)
  | .int k => .eq (tget (.int k) f x i) (tget (.int k) f y i)
  | .ptr => .eq (tget .ptr f x i) (tget .ptr f y i)
  | .sls => .tb .eq (tget .sls f x i) (tget .sls f y i) (.il 0)
def rowTmEq (x y i : Tm) : List Kd → Nat → Tm
  | [], _ => .bl true
  | k :: l, f => match l with
    | [] => fldEq x y i k f
    | _ :: _ => .and (fldEq x y i k f) (rowTmEq x y i l (f + 1))
theorem bytes_beq {s t : ByteArray} : (s.toList == t.toList) = true ↔ s = t := by
  rw [beq_iff_eq]
  constructor
  · intro h
    rw [ByteArray.toList_eq s, ByteArray.toList_eq t] at h
    exact bytes_ext h
  · intro h; rw [h]
theorem fldEq_ok (ρ : Env) (x y i : Tm) (k : Kd) (f : Nat) : (den ρ (fldEq x y i k f)).b = true ↔ KEq k (getV k (((den ρ x).c.getD (den ρ i).i.toNat []).getD f (.bool false))) (getV k (((den ρ y).c.getD (den ρ i).i.toNat []).getD f (.bool false))) := by
  cases k with
  | bool => exact beq_iff_eq
  | str => exact bytes_beq
  | int k => exact beq_iff_eq
  | ptr => exact beq_iff_eq
  | sls =>
    show sqT [[slV _]] [[slV _]] = true ↔ slV (slV _) = slV (slV _)
    rw [slV_slV, slV_slV]
    simp only [sqT, sqR, Bool.and_true]
    exact sqV_iff (slV_kOK _) (slV_kOK _)
theorem rowTmEq_ok (ρ : Env) (x y i : Tm) : ∀ (lv : List Kd) (f : Nat), (den ρ (rowTmEq x y i lv f)).b = true ↔ rowEq lv ((den ρ x).c.getD (den ρ i).i.toNat []) ((den ρ y).c.getD (den ρ i).i.toNat []) f
  | [], f => by simp [rowTmEq, rowEq]; rfl
  | [k], f => by
    simp only [rowTmEq, rowEq, and_true]
    exact fldEq_ok ρ x y i k f
  | k :: k' :: l, f => by
    have ih := rowTmEq_ok ρ x y i (k' :: l) (f + 1)
    show (den ρ (.and (fldEq x y i k f) (rowTmEq x y i (k' :: l) (f + 1)))).b = true ↔ _ ∧ rowEq (k' :: l) _ _ (f + 1)
    rw [t_and, fldEq_ok, ih]
theorem rowEq_refl (lv : List Kd) (r : List Value) : ∀ f, rowEq lv r r f := by
  induction lv with
  | nil => intro f; trivial
  | cons k lv ih => intro f; exact ⟨KEq.refl _ _, ih _⟩

def eqHp (ty : TypeId) (lv : List Kd) : List Bk := [⟨0, ty, [], false, none, .tab lv (.cv 0)⟩, ⟨2, ty, [], false, none, .tab lv (.cv 1)⟩]
def eqBs : List Bd := [⟨tlen (.cv 0), 0, 140737488355328⟩, ⟨tlen (.cv 1), 0, 140737488355328⟩]
def eqSt (ty : TypeId) (lv : List Kd) : Sy.St := ⟨[], eqHp ty lv, ⟨eqBs, []⟩, 4⟩
def eqA (lv : List Kd) : List SV := [.one (.c (.slt 0 lv.length (.il 0) (tlen (.cv 0)) (.il 0))), .one (.c (.slt 2 lv.length (.il 0) (tlen (.cv 1)) (.il 0)))]
def eqP : List Nat := [1, 1, 0, 1, 2]
def eqR0 (P : Program) (fn : Func) (ty : TypeId) (lv : List Kd) : Rs := run P [] 10 400 4 (.code (pre eqP (bodyOf fn))) (enterS fn (eqA lv) (eqSt ty lv))
def eqTp (P : Program) (fn : Func) (ty : TypeId) (lv : List Kd) : Sy.St := tplS (lfAt (eqR0 P fn ty lv) 1) (lpBody (Sy.sub eqP (bodyOf fn))) [(14, .one (.c (.int .i64 (.iv 0))))] [] ⟨⟨.iv 0, 0, 140737488355328⟩ :: eqBs, []⟩ 30
def eqR1 (P : Program) (fn : Func) (ty : TypeId) (lv : List Kd) : Rs := run P [] 10 400 4 (.code (lpBody (Sy.sub eqP (bodyOf fn)))) (eqTp P fn ty lv)
/-- What the kernel shows of an Eq. -/
structure EqRuns (P : Program) (f : FuncId) (fn : Func) (ty : TypeId) (lv : List Kd) (q : Tm := rowTmEq (.cv 0) (.cv 1) (.iv 0) lv 0) : Prop where
  row : ∀ ρ, (den ρ q).b = (den ρ (rowTmEq (.cv 0) (.cv 1) (.iv 0) lv 0)).b
  hf : P.funcs[f]? = some fn
  body : fn.body.isSome = true
  run0 : shR 4 none (eqR0 P fn ty lv) = some [.out 0 .ret [.not (.eq (tlen (.cv 0)) (tlen (.cv 1)))], .out 1 .normal [.eq (tlen (.cv 0)) (tlen (.cv 1))]]
  ret0 : retS P (lfAt (eqR0 P fn ty lv) 0) fn.results.toList = some (.one (.c (.bool (.bl false))))
  match_ : (matchS 4 (eqTp P fn ty lv) (lfAt (eqR0 P fn ty lv) 1)).map noU = some [.i 0 (.il 0)]
  loop : Code.loop (lpBody (Sy.sub eqP (bodyOf fn))) = Sy.sub eqP (bodyOf fn)
  run1 : shR 4 (some (eqTp P fn ty lv)) (eqR1 P fn ty lv) = some [.must (.lt (.iv 0) (tlen (.cv 1))) [.lt (.iv 0) (tlen (.cv 0))], .must (.lt (.iv 0) (tlen (.cv 1))) [.lt (.iv 0) (tlen (.cv 1)), .lt (.iv 0) (tlen (.cv 0))],
    .out 2 .ret [.not q, .lt (.iv 0) (tlen (.cv 1)), .lt (.iv 0) (tlen (.cv 1)), .lt (.iv 0) (tlen (.cv 0))],
    .back [.i 0 (.add (.iv 0) (.il 1))] [q, .lt (.iv 0) (tlen (.cv 1)), .lt (.iv 0) (tlen (.cv 1)), .lt (.iv 0) (tlen (.cv 0))],
    .out 4 (.exit 0) [.not (.lt (.iv 0) (tlen (.cv 0)))]]
  cx1 : (eqTp P fn ty lv).cx = ⟨⟨.iv 0, 0, 140737488355328⟩ :: eqBs, []⟩
  ret1 : retS P (lfAt (eqR1 P fn ty lv) 2) fn.results.toList = some (.one (.c (.bool (.bl false))))
  fin : smR P fn 4 (run P [] 10 400 4 (.code (aft (.exit 0) eqP (bodyOf fn))) (lfAt (eqR1 P fn ty lv) 4)) = some [.ret (.one (.c (.bool (.bl true)))) (eqHp ty lv) [.not (.lt (.iv 0) (tlen (.cv 0)))]]
structure EqI (a b : List (List Value)) (ρ : Env) : Prop where
  g : ρ.good
  ha : ρ.c 0 = a
  hb : ρ.c 1 = b
  i0 : 0 ≤ ρ.i 0
  i1 : ρ.i 0 ≤ (a.length : Int)
  eq : ∀ j, j < (ρ.i 0).toNat → a.getD j [] = b.getD j []
theorem list_ext_getD {a b : List (List Value)} (hl : a.length = b.length) (h : ∀ j, j < a.length → a.getD j [] = b.getD j []) : a = b := by
  apply List.ext_getElem hl
  intro j h1 h2
  have := h j h1
  rwa [List.getD, List.getD, List.getElem?_eq_getElem h1, List.getElem?_eq_getElem h2] at this
set_option maxRecDepth 100000 in
theorem eq_calls {P : Program} {f : FuncId} {fn : Func} {ty : TypeId} {lv : List Kd} {q : Tm} (E : EqRuns P f fn ty lv q) {w : World} {ga ca gb cb : Nat} {a b : List (List Value)} (ha : RowT w ga ca ty lv a) (hb : RowT w gb cb ty lv b)
    (hla : a.length ≤ 140737488355328) (hlb : b.length ≤ 140737488355328) (hne : ca ≠ 0 → cb ≠ 0 → ga ≠ gb) :
    Calls P f #[sltV ga ca a.length, sltV gb cb b.length] w fun e w' => e = .returned (.bool (sqT a b)) ∧ Below w.heap.size w w' := by
  let ρ0 : Env := { mkEnv0 [] [] [] [] with c := fun n => if n = 0 then a else b }
  let β0 : Bn := fun l => if l = 0 then ga else if l = 1 then ca else if l = 2 then gb else cb
  have hbs : ∀ ρ : Env, ρ.c 0 = a → ρ.c 1 = b → Bds ρ eqBs := fun ρ h0 h1 x hx => by
    change x ∈ [_, _] at hx
    simp only [List.mem_cons, List.not_mem_nil, or_false] at hx
    rcases hx with rfl | rfl
    · show (0 : Int) ≤ (((ρ.c 0).length : Nat) : Int) ∧ (((ρ.c 0).length : Nat) : Int) ≤ 140737488355328
      rw [h0]
      omega
    · show (0 : Int) ≤ (((ρ.c 1).length : Nat) : Int) ∧ (((ρ.c 1).length : Nat) : Int) ≤ 140737488355328
      rw [h1]
      omega
  have hM0 : Md ρ0 (fun _ => False) w β0 4 (eqSt ty lv) β0 ⟨#[], []⟩ w := by
    refine ⟨rfl, fun x hx => ?_, fun x hx y hy hxy hrx hry => ?_, fun x hx hw _ => ?_, ⟨hbs ρ0 rfl rfl, fun t ht => by cases ht⟩, Only.refl _ _, fun _ _ => rfl⟩
    · change x ∈ [_, _] at hx
      simp only [List.mem_cons, List.not_mem_nil, or_false] at hx
      rcases hx with rfl | rfl
      · exact ha
      · exact hb
    · change x ∈ [_, _] at hx
      change y ∈ [_, _] at hy
      simp only [List.mem_cons, List.not_mem_nil, or_false] at hx hy
      rcases hx with rfl | rfl <;> rcases hy with rfl | rfl
      · exact absurd rfl hxy
      · exact apart.of rfl rfl (hne (hrx.resolve_left (by simp [Bk.nilable, Xt.isTab])) (hry.resolve_left (by simp [Bk.nilable, Xt.isTab])))
      · exact apart.of rfl rfl (hne (hry.resolve_left (by simp [Bk.nilable, Xt.isTab])) (hrx.resolve_left (by simp [Bk.nilable, Xt.isTab]))).symm
      · exact absurd rfl hxy
    · change x ∈ [_, _] at hx
      simp only [List.mem_cons, List.not_mem_nil, or_false] at hx
      rcases hx with rfl | rfl <;> cases hw
  have hg0 : ρ0.good := fun i => rfl
  have hargs : (#[sltV ga ca a.length, sltV gb cb b.length] : Array Value) = ((eqA lv).map (SV.den ρ0 β0)).toArray := by
    show _ = (#[sltZ ga ca lv.length 0 a.length 0, sltZ gb cb lv.length 0 b.length 0] : Array Value)
    rw [sltZ_zero, sltZ_zero]
  refine (calls_pre (B := ⟨ρ0, fun _ => False, w, β0, 4⟩) (sp := []) (p := eqP) (xs := eqA lv) (s := eqSt ty lv) (r := eqR0 P fn ty lv) hg0 (fun q hq => by cases hq) rfl E.hf E.body rfl E.run0 hM0 (R := fun v w' => v = .bool (sqT a b) ∧ Below w.heap.size w w') ?_ hargs).mono (fun e w' h => by
    obtain ⟨v, rfl, rfl, hb⟩ := h
    exact ⟨rfl, hb⟩)
  have no : a ≠ b → sqT a b = false := fun h => by
    cases hq : sqT a b with
    | false => rfl
    | true => exact absurd ((sqT_iff ha.ok hb.ok).1 hq) h
  refine ⟨?_, ?_, trivial⟩
  · intro hpc β ac w' hM
    refine ret_post (B := ⟨ρ0, fun _ => False, w, β0, 4⟩) hM E.ret0 ⟨?_, Sy.Only.below_all hM.only⟩
    have hne : ¬ ((a.length : Int) = (b.length : Int)) := by
      have := hpc.1
      rw [t_not, t_eq] at this
      exact this
    rw [no (fun h => hne (by rw [h]))]
    rfl
  · intro hpc β ac w' hM
    have hl : (a.length : Int) = (b.length : Int) := by
      have := hpc.1
      rw [t_eq] at this
      exact this
    have hl : a.length = b.length := Int.ofNat.inj hl
    show (Sy.sub eqP (bodyOf fn)).wp P (ctx P eqP (bodyOf fn) _) ac w'
    rw [← E.loop]
    have hcx : ∀ ρ, EqI a b ρ → (eqTp P fn ty lv).cx.ok ρ := fun ρ h => by
      rw [E.cx1]
      refine ⟨fun x hx => ?_, fun t ht => by cases ht⟩
      rcases List.mem_cons.1 hx with rfl | hx
      · have h0 := h.i0
        have h1 := h.i1
        show (0 : Int) ≤ ρ.i 0 ∧ ρ.i 0 ≤ 140737488355328
        omega
      · exact hbs ρ h.ha h.hb x hx
    have hI1 : ∀ u, EqI a b { ρ0.sub β [.i 0 (.il 0)] with u := u } := fun u => ⟨fun i => rfl, rfl, rfl, Int.le_refl 0, show (0 : Int) ≤ _ by omega, fun j hj => absurd hj (by show ¬ j < (0 : Int).toNat; omega)⟩
    obtain ⟨u, β', hM2⟩ := Sy.Md.enter hM E.match_ fun u => hcx _ (hI1 u)
    refine loop_wp (w0 := w) (r := eqR1 P fn ty lv) rfl E.run1 (EqI a b) (fun ρ => (a.length - (ρ.i 0).toNat)) (fun ρ hI => hI.g) (fun ρ hI q hq => by cases hq) hcx ?_ (hI1 u) hM2
    intro ρ hI
    have hi0 := hI.i0
    have hi1 := hI.i1
    have e0 : ((den ρ (.lt (.iv 0) (tlen (.cv 0)))).b = true) = (ρ.i 0 < (a.length : Int)) := by rw [t_lt]; show (ρ.i 0 < (((ρ.c 0).length : Nat) : Int)) = _; rw [hI.ha]
    have e1 : ((den ρ (.lt (.iv 0) (tlen (.cv 1)))).b = true) = (ρ.i 0 < (b.length : Int)) := by rw [t_lt]; show (ρ.i 0 < (((ρ.c 1).length : Nat) : Int)) = _; rw [hI.hb]
    have rows : ρ.i 0 < (a.length : Int) → (((den ρ q).b = true) ↔ a.getD (ρ.i 0).toNat [] = b.getD (ρ.i 0).toNat []) := fun hlt => by
      rw [E.row, rowTmEq_ok]
      show rowEq lv ((ρ.c 0).getD (ρ.i 0).toNat []) ((ρ.c 1).getD (ρ.i 0).toNat []) 0 ↔ _
      rw [hI.ha, hI.hb]
      constructor
      · intro h
        exact row_ext (f := 0) (ha.ok _ (getD_mem (by omega))) (hb.ok _ (getD_mem (by omega))) h
      · intro h
        rw [h]
        exact rowEq_refl _ _ _
    refine ⟨?_, ?_, ?_, ?_, ?_, trivial⟩
    · intro hpc
      have h := hpc.1
      rw [e0] at h
      rw [e1]
      omega
    · intro hpc
      exact hpc.1
    · intro hpc β ac w' hM
      have h1 := hpc.1
      have h2 := hpc.2.2.2.1
      rw [e0] at h2
      rw [t_not, rows h2] at h1
      refine ctx_ret (P := P) eqP (bodyOf fn) _ (ret_post (B := ⟨ρ, fun _ => False, w, β0, 4⟩) hM E.ret1 ⟨?_, Sy.Only.below_all hM.only⟩)
      rw [no (fun h => h1 (by rw [h]))]
      rfl
    · intro hpc β u
      have h1 := hpc.1
      have h2 := hpc.2.2.2.1
      rw [e0] at h2
      rw [rows h2] at h1
      refine ⟨⟨hI.g, hI.ha, hI.hb, ?_, ?_, ?_⟩, ?_⟩
      · show 0 ≤ ρ.i 0 + 1
        omega
      · show ρ.i 0 + 1 ≤ _
        omega
      · show ∀ j, j < (ρ.i 0 + 1).toNat → _
        intro j hj
        by_cases hji : j = (ρ.i 0).toNat
        · rw [hji]; exact h1
        · exact hI.eq j (by omega)
      · show a.length - (ρ.i 0 + 1).toNat < a.length - (ρ.i 0).toNat
        omega
    · intro hpc β ac w' hM
      refine aft_fin (B := ⟨ρ, fun _ => False, w, β0, 4⟩) hI.g (fun q hq => by cases hq) rfl (.exit 0) E.fin ?_ hM
      refine ⟨?_, trivial⟩
      intro hpc2 β2 w2 hH
      have h := hpc.1
      rw [t_not, e0] at h
      refine ⟨?_, Sy.Only.below_all hH.only⟩
      have : a = b := list_ext_getD hl fun j hj => hI.eq j (by omega)
      show Value.bool true = _
      rw [(sqT_iff ha.ok hb.ok).2 this]
/-! In letters. -/
def mkTE (x y : Tm) : Tm := if same x y then .bl true else .tb .eq x y (.il 0)
theorem sqV_refl (v : Value) : sqV v v = true := by
  cases v with
  | int k n => simp [sqV, sqI_iff]
  | bool b => simp [sqV]
  | string s => simp [sqV]
  | pointer a => cases a <;> simp [sqV]
  | slice a n c => simp [sqV]
  | _ => rfl
theorem sqR_refl : ∀ r : List Value, sqR r r = true
  | [] => rfl
  | v :: r => by simp [sqR, sqV_refl v, sqR_refl r]
theorem sqT_refl : ∀ r : List (List Value), sqT r r = true
  | [] => rfl
  | v :: r => by simp [sqT, sqR_refl v, sqT_refl r]
theorem mkTE_ok (ρ : Env) (x y : Tm) : (den ρ (mkTE x y)).b = sqT (den ρ x).c (den ρ y).c := by
  unfold mkTE
  split
  · rename_i q
    rw [same_eq q, sqT_refl]
    rfl
  · rfl
/-- A table handed in whole. -/
def tabArg (c : Cx) (hp : List Bk) (ty : TypeId) (lv : List Kd) : SV → Option (List Tm × Option Nat × Tm)
  | .one (.c .nslc) => some ([], none, tn)
  | .one (.c (.slt l m off len an)) => match find l hp with
    | some b => match b.str, b.x with
      | none, .tab lv' t => if Nat.beq b.ty ty && (sameLv lv lv' && (Nat.beq m lv.length && (same off (.il 0) && same an (.il 0)))) then some (need c (.le len (mkTL c t)) ++ (need c (.le (mkTL c t) len) ++ need c (.le (mkTL c t) (.il 140737488355328))), some l, t) else none
      | _, _ => none
    | none => none
  | _ => none
theorem tabArg_ok {ρ : Env} {S : Nat → Prop} {w0 : World} {β0 : Bn} {n0 : Nat} {s : Sy.St} {β : Bn} {a : Act} {w : World} (hM : Md ρ S w0 β0 n0 s β a w) {c : Cx} (hc : c.ok ρ) {ty : TypeId} {lv : List Kd} {x : SV} {m : List Tm} {ol : Option Nat} {t : Tm} (h : tabArg c s.hp ty lv x = some (m, ol, t)) (hm : Met ρ m) :
    ∃ g cap, x.den ρ β = sltV g cap (den ρ t).c.length ∧ RowT w g cap ty lv (den ρ t).c ∧ (den ρ t).c.length ≤ 140737488355328 ∧ (cap ≠ 0 → ∃ b ∈ s.hp, ol = some b.l ∧ b.real β ∧ g = β b.l) := by
  unfold tabArg at h
  split at h
  · injection h with h
    injection h with h1 h2
    injection h2 with h2 h3
    subst h1 h2 h3
    exact ⟨0, 0, rfl, RowT.none_ .., Nat.zero_le _, fun h => absurd rfl h⟩
  · rename_i l mm off len an
    split at h
    · rename_i b hf
      split at h
      · rename_i lv' t' hs hx
        split at h
        · rename_i q
          simp only [Bool.and_eq_true] at q
          injection h with h
          injection h with h1 h2
          injection h2 with h2 h3
          subst h1 h2 h3
          have q1 := Nat.eq_of_beq_eq_true q.1
          have q2 := sameLv_eq q.2.1
          have q3 := Nat.eq_of_beq_eq_true q.2.2.1
          subst q2 q3
          have hmem := find_mem hf
          have hB := hM.hp b hmem.1
          unfold BkOk at hB
          rw [hs, hx] at hB
          have hB : RowT w (β b.l) (β (b.l + 1)) b.ty lv (den ρ t').c := hB
          rw [hmem.2, q1] at hB
          have l1 := le_of (need_ok hc hm.l)
          have l2 := le_of (need_ok hc hm.r.l)
          have l3 := le_of (need_ok hc hm.r.r)
          rw [mkTL_ok hc] at l1 l2 l3
          change _ ≤ (140737488355328 : Int) at l3
          refine ⟨β l, β (l + 1), ?_, hB, by omega, fun h0 => ⟨b, hmem.1, by rw [hmem.2], .inr (by rw [hmem.2]; exact h0), by rw [hmem.2]⟩⟩
          show C.den ρ β (.slt l lv.length off len an) = _
          rw [slt_den, same_eq q.2.2.2.1, same_eq q.2.2.2.2]
          show sltZ _ _ _ ((0 : Int)).toNat _ ((0 : Int)).toNat = _
          rw [show ((0 : Int)).toNat = 0 from rfl, sltZ_zero]
          congr 1
          omega
        · cases h
      · cases h
    · cases h
  · cases h
def apartL : Option Nat → Option Nat → Bool
  | some a, some b => !(Nat.beq a b)
  | _, _ => true
def eqSp (f : FuncId) (ty : TypeId) (lv : List Kd) : Spec where
  f := f
  pre := fun s xs => match xs with
    | [x, y] => match tabArg s.cx s.hp ty lv x, tabArg s.cx s.hp ty lv y with
      | some (m1, l1, _), some (m2, l2, _) => if apartL l1 l2 then some (m1 ++ m2) else none
      | _, _ => none
    | _ => none
  go := fun _ s xs => match xs with
    | [x, y] => match tabArg s.cx s.hp ty lv x, tabArg s.cx s.hp ty lv y with
      | some (_, _, t), some (_, _, u) => some (s, .one (.c (.bool (mkTE t u))))
      | _, _ => none
    | _ => none
theorem eqSp_ok {P : Program} {ρ : Env} {f : FuncId} {fn : Func} {ty : TypeId} {lv : List Kd} {q0 : Tm} (E : EqRuns P f fn ty lv q0) : (eqSp f ty lv).Ok P ρ := by
  intro B s xs m s' v hB hpre hgo hm β a w hM
  subst hB
  simp only [eqSp] at hpre hgo
  split at hgo
  · rename_i x y
    simp only [] at hpre
    split at hgo
    · rename_i m1 l1 t m2 l2 u h1 h2
      rw [h1, h2] at hpre
      simp only [] at hpre
      split at hpre
      · rename_i q
        injection hpre with hpre
        injection hgo with hgo
        injection hgo with e1 e2
        subst hpre e1 e2
        obtain ⟨g1, c1, a1, a2, a3, a4⟩ := tabArg_ok hM hM.cx h1 hm.l
        obtain ⟨g2, c2, b1, b2, b3, b4⟩ := tabArg_ok hM hM.cx h2 hm.r
        have hne : c1 ≠ 0 → c2 ≠ 0 → g1 ≠ g2 := fun n1 n2 => by
          obtain ⟨p, hp, rfl, pr, rfl⟩ := a4 n1
          obtain ⟨r, hr, rfl, rr, rfl⟩ := b4 n2
          refine hM.neq p hp r hr (fun e => ?_) pr rr
          rw [e] at q
          change (!(Nat.beq r.l r.l)) = true at q
          rw [Nat.beq_refl] at q
          cases q
        show Calls P f (#[x.den B.ρ β, y.den B.ρ β]) w _
        rw [a1, b1]
        refine (eq_calls E a2 b2 a3 b3 hne).mono ?_
        rintro e w' ⟨rfl, hb⟩
        refine ⟨β, a, ?_, ⟨hM.act, fun b hb' => (hM.hp b hb').below hb, hM.ne, hM.may, hM.cx, hM.only.then_below hb, hM.old⟩⟩
        show Ending.returned (.bool _) = .returned (.bool (den B.ρ (mkTE t u)).b)
        rw [mkTE_ok]
      · cases hpre
    · cases hgo
  · cases hgo
/-! Places of a code: out of a block; operations. -/
def outB (n : Nat) : List Nat → Code → Bool
  | 0 :: p, .seq a _ => outB n p a
  | 1 :: p, .seq _ b => outB n p b
  | 2 :: p, .block id a => !(Nat.beq n id) && outB n p a
  | 2 :: p, .scope a => outB n p a
  | _, _ => true
theorem outB_ok (n : Nat) : ∀ (p : List Nat) (c : Code), outB n p c = true → outOf n p c
  | [], c, _ => by cases c <;> exact trivial
  | d :: p, c, h => by
    rcases d with _ | _ | _ | d
    · cases c <;> first | exact outB_ok n p _ h | exact trivial
    · cases c <;> first | exact outB_ok n p _ h | exact trivial
    · cases c <;> try exact trivial
      · rename_i id x
        change (!(Nat.beq n id) && outB n p x) = true at h
        rw [Bool.and_eq_true, Bool.not_eq_true'] at h
        exact ⟨fun e => (by rw [e, Nat.beq_refl] at h; cases h.1), outB_ok n p _ h.2⟩
      · exact outB_ok n p _ h
    · cases c <;> exact trivial
def opAt (c : Code) (j : Nat) : Oper := match c with
  | .region _ ops _ => (ops[j]?).getD default
  | _ => default
def rgId : Code → Nat
  | .region id _ _ => id
  | _ => 0
end Sy
end Go.Proofs.Ytnmfmjlpfhdgeaa
