/- A block that holds a table's slice, in letters. -/
import Derived.Test.YtnjpoidpfcfbeaaLs0
import Derived.Test.YtnjpoidpfcfbeaaSyFo
import Derived.Test.YtnjpoidpfcfbeaaRoutD
namespace Go.Proofs.Ytnjpoidpfcfbeaa
open Go.RowKit Sy
set_option linter.unusedVariables false
set_option linter.unusedSimpArgs false

def tabC (c : Cx) (hp : List Bk) (ty : TypeId) (lv : List Kd) : C → Option (List Tm × Nat × Tm)
  | .slt l m off len an => match find l hp with
    | some b => match b.str, b.x with
      | none, .tab lv' t => if Nat.beq b.ty ty && (sameLv lv lv' && (Nat.beq m lv.length && (same off (.il 0) && same an (.il 0)))) then some (need c (.le len (mkTL c t)) ++ need c (.le (mkTL c t) len), l, t) else none
      | _, _ => none
    | none => none
  | _ => none
theorem tabC_ok {ρ : Env} {β : Bn} {w : World} {hp : List Bk} (hb : ∀ b ∈ hp, BkOk ρ β w b) {c : Cx} (hc : c.ok ρ) {ty : TypeId} {lv : List Kd} {x : C} {m : List Tm} {l : Nat} {t : Tm} (h : tabC c hp ty lv x = some (m, l, t)) (hm : Sy.Met ρ m) :
    (∃ d ∈ hp, d.l = l ∧ d.nilable = true) ∧ C.den ρ β x = sltV (β l) (β (l + 1)) (den ρ t).c.length ∧ RowT w (β l) (β (l + 1)) ty lv (den ρ t).c := by
  unfold tabC at h
  split at h
  · rename_i l0 mm off len an
    split at h
    · rename_i b hf
      split at h
      · rename_i lv' t' hs hx
        split at h
        · rename_i q
          simp only [Bool.and_eq_true] at q
          injection h with h
          injection h with h1 h2
          injection h2 with h2 h3
          subst h1 h2 h3
          have q1 := Nat.eq_of_beq_eq_true q.1
          have q2 := sameLv_eq q.2.1
          have q3 := Nat.eq_of_beq_eq_true q.2.2.1
          subst q2 q3
          have hmem := find_mem hf
          have hB := hb b hmem.1
          unfold BkOk at hB
          rw [hs, hx] at hB
          have hB : RowT w (β b.l) (β (b.l + 1)) b.ty lv (den ρ t').c := hB
          rw [hmem.2, q1] at hB
          have l1 := le_of (need_ok hc hm.l)
          have l2 := le_of (need_ok hc hm.r)
          rw [mkTL_ok hc] at l1 l2
          refine ⟨⟨b, hmem.1, hmem.2, by unfold Bk.nilable; rw [hs, hx]; rfl⟩, ?_, hB⟩
          show C.den ρ β (.slt l0 lv.length off len an) = _
          rw [slt_den, same_eq q.2.2.2.1, same_eq q.2.2.2.2]
          show sltZ _ _ _ ((0 : Int)).toNat _ ((0 : Int)).toNat = _
          rw [show ((0 : Int)).toNat = 0 from rfl, sltZ_zero]
          congr 1
          omega
        · cases h
      · cases h
    · cases h
  · cases h

/-- Block g holds a slice of the table. -/
structure Hold (tyH tyE : TypeId) (lv : List Kd) (w : World) (g a c : Nat) (rows : List (List Value)) : Prop where
  obj : Blk w g tyH [sltV a c rows.length]
  tab : RowT w a c tyE lv rows
  ne : c ≠ 0 → a ≠ g
def hoS (g a c : Nat) (i : Nat) : Prop := i = g ∨ (c ≠ 0 ∧ i = a)
def HoldGo (tyH tyE : TypeId) (lv : List Kd) (w w' : World) (g a c : Nat) (rows' : List (List Value)) : Prop := ∃ a' c', Hold tyH tyE lv w' g a' c' rows' ∧ Only (hoS g a c) w w' ∧ (c' ≠ 0 → (c ≠ 0 ∧ a' = a) ∨ w.heap.size ≤ a')
def hoO (tyH : TypeId) (m : Nat) (l : Nat) (rw : Bool) (nx : Nat) (t : Tm) : Bk := ⟨l, tyH, [.slt nx m (.il 0) (tlen t) (.il 0)], rw, none, .no⟩
def hoN (tyE : TypeId) (lv : List Kd) (nx : Nat) (t : Tm) : Bk := ⟨nx, tyE, [], true, none, .tab lv t⟩
/-- The holder under letter l: may it be written, what is to be shown, its table's letter, the table. -/
def hoF (tyH tyE : TypeId) (lv : List Kd) (s : Sy.St) (l : Nat) : Option (Bool × List Tm × Nat × Tm) := match find l s.hp with
  | some ⟨_, ty, [x], rw, none, .no⟩ => match tabC s.cx s.hp tyE lv x with
    | some (ms, lt, t) => if Nat.beq ty tyH && (!(Nat.beq l lt) && (Nat.blt l s.nx && Nat.blt (lt + 1) s.nx)) then some (rw, ms, lt, t) else none
    | none => none
  | _ => none
theorem hoF_ok {tyH tyE : TypeId} {lv : List Kd} {ρ : Env} {s : Sy.St} {l : Nat} {rw : Bool} {ms : List Tm} {lt : Nat} {t : Tm} (h : hoF tyH tyE lv s l = some (rw, ms, lt, t)) (hc : s.cx.ok ρ) (hm : Sy.Met ρ ms) {β : Bn} {w : World} (hb : ∀ b ∈ s.hp, BkOk ρ β w b) (hne : ∀ x ∈ s.hp, ∀ y ∈ s.hp, x.l ≠ y.l → x.real β → y.real β → apart β x y) :
    Hold tyH tyE lv w (β l) (β lt) (β (lt + 1)) (den ρ t).c ∧ l < s.nx ∧ lt + 1 < s.nx ∧ l ≠ lt ∧ (∃ d ∈ s.hp, d.l = lt ∧ d.nilable = true) ∧ ∃ d ∈ s.hp, d.l = l ∧ d.nilable = false := by
  unfold hoF at h
  split at h
  · rename_i l' ty x rw' hfind
    split at h
    · rename_i ms' lt' t' h1
      split at h
      · rename_i q
        simp only [Bool.and_eq_true] at q
        injection h with h
        injection h with e1 h
        injection h with e2 h
        injection h with e3 e4
        subst e1 e2 e3 e4
        obtain ⟨⟨d, hd, dl, dn⟩, a1, a2⟩ := tabC_ok (β := β) hb hc h1 hm
        have hmem := find_mem hfind
        have hl : l' = l := hmem.2
        subst hl
        have hty : ty = tyH := Nat.eq_of_beq_eq_true q.1
        subst hty
        have hB : Blk w (β l') ty [C.den ρ β x] := hb _ hmem.1
        rw [a1] at hB
        have hll : l' ≠ lt' := fun e => by
          have := q.2.1
          rw [e, Nat.beq_refl] at this
          cases this
        refine ⟨⟨hB, a2, fun hc0 e => ?_⟩, blt_lt q.2.2.1, blt_lt q.2.2.2, hll, ⟨d, hd, dl, dn⟩, ⟨_, hmem.1, rfl, rfl⟩⟩
        exact (hne _ hmem.1 d hd (dl ▸ hll) (.inl rfl) (.inr (by rw [dl]; exact hc0))).ne (by rw [dl]; exact e.symm)
      · cases h
    · cases h
  · cases h
theorem hold_chg {tyH tyE : TypeId} {lv : List Kd} {ρ : Env} {β : Bn} {w w' : World} {s : Sy.St} {l lt : Nat} {rw : Bool} {t' : Tm} (hl : l < s.nx) (hlt : lt + 1 < s.nx) (hd : ∃ d ∈ s.hp, d.l = lt ∧ d.nilable = true) {rows' : List (List Value)} (hG : HoldGo tyH tyE lv w w' (β l) (β lt) (β (lt + 1)) rows') (ht : (den ρ t').c = rows') :
    ∃ β', Chg ρ β β' w w' s [lt] [hoO tyH lv.length l rw s.nx t'] [hoN tyE lv s.nx t'] := by
  obtain ⟨a', c', hR, hO, hf⟩ := hG
  refine ⟨upd (upd β s.nx a') (s.nx + 1) c', ?_⟩
  obtain ⟨d, hd, dl, dn⟩ := hd
  have old : ∀ k, k < s.nx → upd (upd β s.nx a') (s.nx + 1) c' k = β k := fun k hk => by rw [upd_old (by omega), upd_old (by omega)]
  have e0 : upd (upd β s.nx a') (s.nx + 1) c' s.nx = a' := by rw [upd_old (by omega), upd_new]
  have e1 : upd (upd β s.nx a') (s.nx + 1) c' (s.nx + 1) = c' := upd_new ..
  have dr : β (lt + 1) ≠ 0 → d.real β := fun h => .inr (by rw [dl]; exact h)
  refine ⟨hO.mono fun i _ hi => ?_, fun k hk => old k hk, fun b hb => ?_, fun b hb => ?_, fun _ h => (by cases h), fun b hb hr i hi => ?_, fun x hx y hy hxy => ?_, fun _ _ b hb => (by cases hb)⟩
  · rcases hi with rfl | ⟨h0, rfl⟩
    · exact .inl ⟨_, List.mem_cons_self .., rfl⟩
    · exact .inr (.inl ⟨d, hd, by rw [dl]; exact List.mem_cons_self .., dr h0, by rw [← dl]; exact fp_root β d⟩)
  · rw [List.mem_singleton.1 hb]
    show Blk w' (upd (upd β s.nx a') (s.nx + 1) c' l) tyH [sltZ (upd (upd β s.nx a') (s.nx + 1) c' s.nx) (upd (upd β s.nx a') (s.nx + 1) c' (s.nx + 1)) lv.length 0 (((den ρ t').c.length : Int)).toNat 0]
    rw [old l hl, e0, e1, sltZ_zero, Int.toNat_natCast, ht]
    exact hR.obj
  · rw [List.mem_singleton.1 hb]
    show RowT w' (upd (upd β s.nx a') (s.nx + 1) c' s.nx) (upd (upd β s.nx a') (s.nx + 1) c' (s.nx + 1)) tyE lv (den ρ t').c
    rw [e0, e1, ht]
    exact hR.tab
  · rw [List.mem_singleton.1 hb] at hi hr
    have h5 := fp_one rfl hi
    change i = upd (upd β s.nx a') (s.nx + 1) c' s.nx at h5
    rw [e0] at h5
    have hc0 : c' ≠ 0 := fun e => (hr.resolve_left (by simp [hoN, Bk.nilable, Xt.isTab])) (e1.trans e)
    rw [h5]
    rcases hf hc0 with ⟨h0, e⟩ | h
    · exact .inl ⟨d, hd, by rw [dl]; exact List.mem_cons_self .., dr h0, by rw [e, ← dl]; exact fp_root β d⟩
    · exact .inr h
  · rw [List.mem_singleton.1 hx, List.mem_singleton.1 hy] at hxy
    exact absurd rfl hxy
/-- A new table, told. -/
theorem new_chg {tyE : TypeId} {lv : List Kd} {ρ : Env} {β : Bn} {w w' : World} {s : Sy.St} {t' : Tm} {v : Value} {rows' : List (List Value)} (hN : NewTab w w' v tyE lv rows') (ht : (den ρ t').c = rows') :
    ∃ β', v = C.den ρ β' (.slt s.nx lv.length (.il 0) (tlen t') (.il 0)) ∧ Chg ρ β β' w w' s [] [] [hoN tyE lv s.nx t'] := by
  obtain ⟨hb, g, c, rfl, hT, hat⟩ := hN
  have e0 : upd (upd β s.nx g) (s.nx + 1) c s.nx = g := by rw [upd_old (by omega), upd_new]
  have e1 : upd (upd β s.nx g) (s.nx + 1) c (s.nx + 1) = c := upd_new ..
  refine ⟨upd (upd β s.nx g) (s.nx + 1) c, ?_, Only.of_below hb _, fun k hk => by rw [upd_old (by omega), upd_old (by omega)], fun _ h => (by cases h), fun b hb => ?_, fun _ h => (by cases h), fun b hb' hr i hi => ?_, fun x hx y hy hxy => ?_, fun _ _ b hb => (by cases hb)⟩
  · rw [slt_den, e0, e1]
    show _ = sltZ g c lv.length 0 (((den ρ t').c.length : Int)).toNat 0
    rw [sltZ_zero, Int.toNat_natCast, ht]
  · rw [List.mem_singleton.1 hb]
    show RowT w' (upd (upd β s.nx g) (s.nx + 1) c s.nx) (upd (upd β s.nx g) (s.nx + 1) c (s.nx + 1)) tyE lv (den ρ t').c
    rw [e0, e1, ht]
    exact hT
  · rw [List.mem_singleton.1 hb'] at hi hr
    have h5 := fp_one rfl hi
    change i = upd (upd β s.nx g) (s.nx + 1) c s.nx at h5
    rw [e0] at h5
    have hc0 : c ≠ 0 := fun e => (hr.resolve_left (by simp [hoN, Bk.nilable, Xt.isTab])) (e1.trans e)
    rw [h5]
    exact .inr (hat.resolve_left hc0)
  · rw [List.mem_singleton.1 hx, List.mem_singleton.1 hy] at hxy
    exact absurd rfl hxy
end Go.Proofs.Ytnjpoidpfcfbeaa
/- Routes: the contracts of node.walk and Table.All. -/
namespace Go.Proofs.Ytnjpoidpfcfbeaa
open Go.RowKit Sy
set_option linter.unusedVariables false
set_option linter.unusedSimpArgs false

def xLv : List Kd := [.int .u32, .int .i64]
def apT (t : Tm) : Tm := .ap 25 t (.il 0) (.il 0)
def waNew (u t : Tm) : Tm := .tb .app u (apT t) (.il 0)
def ownBr (l fl j : Nat) (ty : TypeId) (rw : Bool) (t : Tm) : Bk := ⟨l, ty, [.ptr fl 0], rw, none, .own j t⟩
/-- The thing of many blocks under letter l, to be read. -/
def ownGr (s : Sy.St) (l : Nat) : Option (TypeId × Nat × Nat × Bool × Tm) := match find l s.hp with
  | some ⟨_, ty, [.ptr fl 0], rw, none, .own j t⟩ => if Nat.blt (l + 1) s.nx then some (ty, fl, j, rw, t) else none
  | _ => none
theorem ownGr_ok {s : Sy.St} {l : Nat} {ty : TypeId} {fl j : Nat} {rw : Bool} {t : Tm} (h : ownGr s l = some (ty, fl, j, rw, t)) : ownBr l fl j ty rw t ∈ s.hp ∧ l + 1 < s.nx := by
  unfold ownGr at h
  split at h
  · rename_i l' ty' fl' rw' j' t' hf
    split at h
    · rename_i q
      injection h with h
      injection h with h1 h
      injection h with h2 h
      injection h with h3 h
      injection h with h4 h5
      subst h1 h2 h3 h4 h5
      have := find_mem hf
      have e : l' = l := this.2
      subst e
      exact ⟨this.1, blt_lt q⟩
    · cases h
  · cases h
def waSel (s : Sy.St) : List SV → Option Did
  | [.one (.c (.ptr l 0)), .one (.agg [.int .u32 x, .int .i64 y]), .one (.c (.fn f [lo]))] => match ownGr s l, hoF 97 29 xLv s lo with
    | some (ty, fl, j, _, t), some (rw, ms, lt, u) => if Nat.beq f 94 && (Nat.blt j 3 && (!(Nat.beq l lo) && !(Nat.beq l lt))) then
        some ⟨ms ++ (need s.cx (.eq x (.iv (j + 22))) ++ (need s.cx (.eq y (.iv (j + 25))) ++ need s.cx (.le (.add (tlen u) (tlen t)) (.il 1000)))), [lt], [hoO 97 2 lo rw s.nx (waNew u t)], [hoN 29 xLv s.nx (waNew u t)], .tup [], [⟨tlen (waNew u t), 0, 1000⟩], none⟩ else none
    | _, _ => none
  | _ => none
def waSp : Sy.Spec := chgSp 93 waSel
def WaPost (w : World) (lo lt cap : Nat) (rows : Rws) (c : Rws) (v : Value) (w' : World) : Prop := v = .tuple #[] ∧ HoldGo 97 29 xLv w w' lo lt cap (rows ++ alR c)
structure WaPre (w : World) (o : Option Int) (k : Nat) (a : Int) (b : Nat) (F : List Nat) (c : Rws) (lo lt cap : Nat) (rows : Rws) : Prop where
  sub : Sub w o k a (ptv b) F c
  hold : Hold 97 29 xLv w lo lt cap rows
  lo0 : lo ∉ F
  lt0 : cap ≠ 0 → lt ∉ F
  len : rows.length + c.length ≤ 1000
  a0 : 0 ≤ a
  al : wid k ∣ a
  a1 : a + wid k ≤ 4294967296
def fnV1 (lo : Nat) : Value := .func (.func 94) #[] #[ptv lo]
theorem alR_len (c : Rws) : (alR c).length = c.length := by unfold alR; rw [List.length_map]
theorem waSp_ok {ρ : Env} (hf : ρ.f = rtF) (h : ∀ j, j < 3 → ∃ o k a, ρ.o j = subT o k a ∧ ρ.i (j + 22) = a ∧ ρ.i (j + 25) = (k : Int) ∧ (0 ≤ a ∧ wid k ∣ a ∧ a + wid k ≤ 4294967296) ∧ ∀ {w b F c lo lt cap rows}, WaPre w o k a b F c lo lt cap rows → Calls Try.prog 93 #[ptv b, pfV a k, fnV1 lo] w (RetP (WaPost w lo lt cap rows c))) : waSp.Ok Try.prog ρ := by
  refine chgSp_ok fun {s xs d} hs hc hm {β w} hb hne => ?_
  unfold waSel at hs
  split at hs
  · rename_i l x y f lo
    split at hs
    · rename_i ty fl j orw t rw ms lt u hfo hfh
      split at hs
      · rename_i q
        simp only [Bool.and_eq_true, Bool.not_eq_true'] at q
        injection hs with hs
        subst hs
        obtain ⟨hd, hlx⟩ := ownGr_ok hfo
        obtain ⟨hH, l1, l2, l3, hdt, hdl⟩ := hoF_ok hfh hc hm.l hb hne
        obtain ⟨o, k, a, ho, i22, i25, ⟨a0, al, a1⟩, hcalls⟩ := h j (blt_lt q.2.1)
        have hB : (ρ.o j).P w (β l) (fun i => (β fl).testBit i = true) (den ρ t).c := hb _ hd
        rw [ho] at hB
        obtain ⟨F, hS, hF⟩ := hB
        have m1 := need_ok hc hm.r.l
        have m2 := need_ok hc hm.r.r.l
        have m3 := le_of (need_ok hc hm.r.r.r)
        rw [t_eq] at m1 m2
        change (den ρ x).i = ρ.i (j + 22) at m1
        change (den ρ y).i = ρ.i (j + 25) at m2
        change ((den ρ u).c.length : Int) + ((den ρ t).c.length : Int) ≤ 1000 at m3
        have hfp : ∀ i ∈ F, fp β (ownBr l fl j ty orw t) i := fun i hi => .inr ⟨rfl, (hF i).2 hi⟩
        obtain ⟨d1, hd1, dl1, dn1⟩ := hdl
        obtain ⟨d2, hd2, dl2, dn2⟩ := hdt
        have nlo : β lo ∉ F := fun hi => hne _ hd _ hd1 (by show l ≠ d1.l; rw [dl1]; exact beq_ne q.2.2.1) (.inl rfl) (.inl dn1) _ (hfp _ hi) (by rw [← dl1]; exact fp_root β d1)
        have nlt : β (lt + 1) ≠ 0 → β lt ∉ F := fun hc0 hi => hne _ hd _ hd2 (by show l ≠ d2.l; rw [dl2]; exact beq_ne q.2.2.2) (.inl rfl) (.inr (by rw [dl2]; exact hc0)) _ (hfp _ hi) (by rw [← dl2]; exact fp_root β d2)
        have hcall := hcalls ⟨hS, hH, nlo, nlt, by omega, a0, al, a1⟩
        have ef : f = 94 := Nat.eq_of_beq_eq_true q.1
        subst ef
        have e2 : (den ρ (waNew u t)).c = (den ρ u).c ++ alR (den ρ t).c := by
          show _ ++ (ρ.f 25 (den ρ t) _ _).c = _
          rw [hf]; rfl
        refine ⟨fun y hy => ?_, ?_⟩
        · rw [List.mem_singleton.1 hy]
          show (0 : Int) ≤ ((den ρ (waNew u t)).c.length : Int) ∧ ((den ρ (waNew u t)).c.length : Int) ≤ 1000
          rw [e2, List.length_append, alR_len]
          omega
        · show Calls Try.prog 93 #[ptv (β l), .agg #[.int .u32 (den ρ x).i, .int .i64 (den ρ y).i], fnV1 (β lo)] w _
          rw [m1, m2, i22, i25]
          refine hcall.mono ?_
          rintro e' w' ⟨v, rfl, rfl, hG⟩
          obtain ⟨β', hC⟩ := hold_chg (rw := rw) (t' := waNew u t) l1 l2 ⟨d2, hd2, dl2, dn2⟩ hG e2
          exact ⟨β', rfl, hC⟩
      · cases hs
    · cases hs
  · cases hs
def waBx (lt : Nat) (n : Tm) : Bk := ⟨10, 97, [.slt lt 2 (.il 0) n (.il 0)], true, none, .no⟩
def waTb (lt : Nat) (t : Tm) : Bk := ⟨lt, 29, [], true, none, .tab xLv t⟩
def own6r : Bk := ownBr 6 7 1 163 false (.cv 1)
def own8r : Bk := ownBr 8 9 2 163 false (.cv 2)
def waOwn (z1 z2 : Bool) : List Bk := (bif z1 then [] else [own6r]) ++ (bif z2 then [] else [own8r])
def waHp (rt z1 z2 : Bool) : List Bk := ndB rt z1 z2 false :: waBx 12 (tlen (.cv 3)) :: (waOwn z1 z2 ++ [waTb 12 (.cv 3)])
def waA : List SV := [.one (.c (.ptr 4 0)), .one (.agg [.int .u32 (.iv 20), .int .i64 (.iv 21)]), .one (.c (.fn 94 [10]))]
def waBs (k1 : Int) : List Bd := [u32B 20, ⟨.iv 21, 0, k1⟩, ⟨tlen (.cv 3), 0, 1000⟩, ⟨tlen (.cv 1), 0, 1000⟩, ⟨tlen (.cv 2), 0, 1000⟩]
def waU (s : Bool) : Tm := bif s then .tb .app (.cv 3) (.tb (.cons (.int .u32)) (.iv 20) (.tb (.cons (.int .i64)) (.iv 21) (.tb .row (.il 0) (.il 0) (.il 0)) (.il 0)) (.il 0)) (.il 0) else .cv 3
def waU1 (z1 s : Bool) : Tm := bif z1 then waU s else waNew (waU s) (.cv 1)
def waU2 (z1 z2 s : Bool) : Tm := bif z2 then waU1 z1 s else waNew (waU1 z1 s) (.cv 2)
def waL1 (s : Bool) : Tm := bif s then .add (.add (tlen (.cv 3)) (tlen (apT (.cv 1)))) (.il 1) else .add (tlen (.cv 3)) (tlen (apT (.cv 1)))
def waPc (z1 z2 s : Bool) : List Tm := sT s :: ((bif z1 then [] else [.eq (.bop .or .u32 (.iv 20) (.il 0)) (.iv 23), .eq (.add (.iv 21) (.il 1)) (.iv 26), .le (.add (tlen (waU s)) (tlen (.cv 1))) (.il 1000)])
  ++ ((bif z2 then [] else [.eq (.bop .or .u32 (.iv 20) (.pw (.sub (.il 31) (.iv 21)))) (.iv 24), .eq (.add (.iv 21) (.il 1)) (.iv 27), .le (.add (tlen (waU1 z1 s)) (tlen (.cv 2))) (.il 1000)])
  ++ (bif z1 || z2 then [] else [.le (tlen (waU1 false s)) (waL1 s), .le (waL1 s) (tlen (waU1 false s))])))
def waSt (rt z1 z2 s : Bool) : Sy.St := ⟨[], waHp rt z1 z2, ⟨ndBs 32 ++ waBs (bif z1 && z2 then 32 else 31), waPc z1 z2 s⟩, 40⟩
def waR (P : Program) (fn : Func) (rt z1 z2 s : Bool) : Rs := run P [waSp] 10 400 14 (.code (bodyOf fn)) (enterS fn waA (waSt rt z1 z2 s))
def waN (z1 z2 s : Bool) : Nat := match z1, z2, s with
  | true, true, true => 46
  | true, true, false => 12
  | false, false, true => 114
  | false, false, false => 108
  | _, _, true => 80
  | _, _, false => 74
def waLn (z1 z2 s : Bool) : Tm := bif z1 && z2 then (bif s then .add (tlen (.cv 3)) (.il 1) else tlen (.cv 3)) else tlen (waU2 z1 z2 s)
def waLf (rt z1 z2 s : Bool) : List Bk := bif z1 && (z2 && !s) then [ndB rt z1 z2 false, waBx 12 (tlen (.cv 3)), waTb 12 (.cv 3)] else waTb (waN z1 z2 s) (waU2 z1 z2 s) :: ndB rt z1 z2 false :: waBx (waN z1 z2 s) (waLn z1 z2 s) :: waOwn z1 z2
set_option maxRecDepth 100000 in
theorem wa_run : ∀ rt z1 z2 s : Bool, smR Try.prog Try.f93 14 (waR Try.prog Try.f93 rt z1 z2 s) = some [.ret (.tup []) (waLf rt z1 z2 s) (waPc z1 z2 s)] := by
  intro rt z1 z2 s
  cases rt <;> cases z1 <;> cases z2 <;> cases s <;> kernel_rfl
set_option maxRecDepth 100000 in
theorem wa_run0 : ∀ rt s : Bool, smR Try.prog Try.f93 14 (run Try.prog [] 10 400 14 (.code (bodyOf Try.f93)) (enterS Try.f93 waA (waSt rt true true s))) = some [.ret (.tup []) (waLf rt true true s) (waPc true true s)] := by
  intro rt s
  cases rt <;> cases s <;> kernel_rfl
theorem bor0 {a : Int} (h0 : 0 ≤ a) (h1 : a ≤ 4294967295) : bits .or .u32 a 0 = a := by
  have e1 : (BitVec.ofInt 32 a ||| BitVec.ofInt 32 0).toNat = (a % 4294967296).toNat := by
    rw [BitVec.toNat_or]
    show (a % 4294967296).toNat ||| 0 = _
    exact Nat.or_zero _
  show IntKind.u32.wrap ((BitVec.ofInt 32 a ||| BitVec.ofInt 32 0).toNat : Int) = _
  rw [e1, show (((a % 4294967296).toNat : Nat) : Int) = a by omega]
  exact wrap_in (show (0 : Int) ≤ _ by omega) (show _ ≤ (4294967295 : Int) by omega)
def waE (k : Nat) (a : Int) (o : Option Int) (s : Bool) (v : Int) (c1 c2 rows : Rws) : Env := { mkEnv0 [] [] [] [] with
  i := fun n => if n = 33 then v else if n = 34 then o.getD 0 else if n = 21 then (k : Int) else if n = 24 then a + wid (k + 1) else if 25 ≤ n then ((k + 1 : Nat) : Int) else a
  b := fun n => if n = 32 then s else false
  c := fun n => if n = 1 then c1 else if n = 2 then c2 else if n = 3 then rows else []
  f := rtF
  o := fun n => if n = 2 then subT none (k + 1) (a + wid (k + 1)) else subT none (k + 1) a }
def waNm (b : Nat) (p1 p2 : Value) (F1 F2 : List Nat) (lo lt cap : Nat) : Bn := fun l => if l = 4 then b else if l = 6 then kidA p1 else if l = 7 then bitsOf F1 else if l = 8 then kidA p2 else if l = 9 then bitsOf F2 else if l = 10 then lo else if l = 12 then lt else if l = 13 then cap else 0
theorem alR_app (x y : Rws) : alR (x ++ y) = alR x ++ alR y := List.map_append ..
section
variable {w : World} {o : Option Int} {k : Nat} {a : Int} {b : Nat} {F : List Nat} {c : Rws} {p1 p2 : Value} {F1 F2 : List Nat} {c1 c2 : Rws} {s : Bool} {v : Int} {lo lt cap : Nat} {rows : Rws}
theorem waE_nd : NdE 32 s v o (waE k a o s v c1 c2 rows) := ⟨rfl, rfl, rfl⟩
theorem wa_all (N : Nd w o k a b F c p1 p2 F1 F2 c1 c2 s v) (a0 : 0 ≤ a) (al : wid k ∣ a) (a1 : a + wid k ≤ 4294967296) (z1 : kidZ p1 = true → c1 = []) (z2 : kidZ p2 = true → c2 = []) :
    (den (waE k a o s v c1 c2 rows) (waU s)).c = rows ++ alR (ownR s a k v) ∧ (den (waE k a o s v c1 c2 rows) (waU1 (kidZ p1) s)).c = rows ++ alR (ownR s a k v ++ c1) ∧ (den (waE k a o s v c1 c2 rows) (waU2 (kidZ p1) (kidZ p2) s)).c = rows ++ alR c ∧
    (den (waE k a o s v c1 c2 rows) (waLn (kidZ p1) (kidZ p2) s)).i = ((rows ++ alR c).length : Int) := by
  have e0 : (den (waE k a o s v c1 c2 rows) (waU s)).c = rows ++ alR (ownR s a k v) := by
    cases s with
    | false => exact (List.append_nil rows).symm
    | true =>
      show rows ++ [[Value.int .u32 a, .int .i64 (k : Int)]] = rows ++ [alF (mkR a k v)]
      obtain ⟨_, g0, g1, _⟩ := InP.own N.hk a0 al a1 N.v0 N.v1
      unfold alF
      rw [g0, g1]
  have e1 : (den (waE k a o s v c1 c2 rows) (waU1 (kidZ p1) s)).c = rows ++ alR (ownR s a k v ++ c1) := by
    rw [alR_app, ← List.append_assoc, ← e0]
    cases q : kidZ p1 with
    | true => rw [z1 q]; exact (List.append_nil _).symm
    | false => rfl
  have e2 : (den (waE k a o s v c1 c2 rows) (waU2 (kidZ p1) (kidZ p2) s)).c = rows ++ alR c := by
    rw [N.hc, ← List.append_assoc, alR_app, ← List.append_assoc, ← e1]
    cases q : kidZ p2 with
    | true => rw [z2 q]; exact (List.append_nil _).symm
    | false => rfl
  refine ⟨e0, e1, e2, ?_⟩
  cases q1 : kidZ p1 with
  | false =>
    show ((den (waE k a o s v c1 c2 rows) (waU2 false (kidZ p2) s)).c.length : Int) = _
    rw [← e2, q1]
  | true =>
    cases q2 : kidZ p2 with
    | false =>
      show ((den (waE k a o s v c1 c2 rows) (waU2 true false s)).c.length : Int) = _
      rw [← e2, q1, q2]
    | true =>
      rw [← e2, q1, q2]
      cases s with
      | true =>
        show ((rows.length : Nat) : Int) + 1 = ((rows ++ [_]).length : Int)
        rw [List.length_append]
        rfl
      | false => rfl
set_option maxRecDepth 100000 in
theorem wa_leaf (N : Nd w o k a b F c p1 p2 F1 F2 c1 c2 s v) (a0 : 0 ≤ a) (al : wid k ∣ a) (a1 : a + wid k ≤ 4294967296) (z1 : kidZ p1 = true → c1 = []) (z2 : kidZ p2 = true → c2 = []) {β : Bn} {w2 : World}
    (hH : Hp (waE k a o s v c1 c2 rows) (hoS lo lt cap) w (waNm b p1 p2 F1 F2 lo lt cap) 14 (waLf o.isSome (kidZ p1) (kidZ p2) s) β w2) : HoldGo 97 29 xLv w w2 lo lt cap (rows ++ alR c) := by
  obtain ⟨_, _, e2, e3⟩ := wa_all N a0 al a1 z1 z2 (rows := rows)
  have mb : waBx (waN (kidZ p1) (kidZ p2) s) (waLn (kidZ p1) (kidZ p2) s) ∈ waLf o.isSome (kidZ p1) (kidZ p2) s ∧ waTb (waN (kidZ p1) (kidZ p2) s) (waU2 (kidZ p1) (kidZ p2) s) ∈ waLf o.isSome (kidZ p1) (kidZ p2) s := by
    cases kidZ p1 <;> cases kidZ p2 <;> cases s <;> first
      | exact ⟨List.mem_cons_of_mem _ (List.mem_cons_of_mem _ (List.mem_cons_self ..)), List.mem_cons_self ..⟩
      | exact ⟨List.mem_cons_of_mem _ (List.mem_cons_self ..), List.mem_cons_of_mem _ (List.mem_cons_of_mem _ (List.mem_cons_self ..))⟩
  have hn10 : waN (kidZ p1) (kidZ p2) s ≠ 10 := by cases kidZ p1 <;> cases kidZ p2 <;> cases s <;> decide
  generalize hN : waN (kidZ p1) (kidZ p2) s = n at mb hn10
  obtain ⟨m1, m2⟩ := mb
  have k10 : β 10 = lo := hH.old 10 (show 10 < 14 by decide)
  have hT : RowT w2 (β n) (β (n + 1)) 29 xLv (den (waE k a o s v c1 c2 rows) (waU2 (kidZ p1) (kidZ p2) s)).c := hH.hp _ m2
  have hO : Blk w2 (β 10) 97 [C.den (waE k a o s v c1 c2 rows) β (.slt n 2 (.il 0) (waLn (kidZ p1) (kidZ p2) s) (.il 0))] := hH.hp _ m1
  rw [slt_den] at hO
  have hO : Blk w2 (β 10) 97 [sltZ (β n) (β (n + 1)) 2 0 (den (waE k a o s v c1 c2 rows) (waLn (kidZ p1) (kidZ p2) s)).i.toNat 0] := hO
  rw [sltZ_zero, e3, k10, Int.toNat_natCast] at hO
  rw [e2] at hT
  have n2 : β (n + 1) ≠ 0 → β n ≠ β 10 := fun hc => hH.neq _ m2 _ m1 hn10 (.inr hc) (.inl rfl)
  refine ⟨β n, β (n + 1), ⟨hO, hT, fun hc q => n2 hc (q.trans k10.symm)⟩, hH.only, fun hc => ?_⟩
  rcases hH.may0 _ m2 rfl (.inr hc) with q | q
  · rcases q with q | q
    · exact absurd (q.trans k10.symm) (n2 hc)
    · exact .inl q
  · exact .inr q
set_option maxRecDepth 100000 in
set_option maxHeartbeats 2000000 in
theorem wa_step (W : WaPre w o k a b F c lo lt cap rows) (N : Nd w o k a b F c p1 p2 F1 F2 c1 c2 s v) (ho : ∀ m, o = some m → 0 ≤ m ∧ m ≤ 64) (ih : ∀ {w a b F c lo lt cap rows}, WaPre w none (k + 1) a b F c lo lt cap rows → Calls Try.prog 93 #[ptv b, pfV a ((k + 1 : Nat) : Int), fnV1 lo] w (RetP (WaPost w lo lt cap rows c))) :
    Calls Try.prog 93 #[ptv b, pfV a k, fnV1 lo] w (RetP (WaPost w lo lt cap rows c)) := by
  obtain ⟨z1c, z1p⟩ := pr_kidF N.k1
  obtain ⟨z2c, z2p⟩ := pr_kidF N.k2
  have a0 := W.a0
  have al := W.al
  have a1 := W.a1
  have hlen := W.len
  have hkk := N.hk
  have hwk := wid_pos k
  have hd := N.hd
  rw [List.nodup_cons, List.nodup_append] at hd
  obtain ⟨hd0, hd1, hd2, hd3⟩ := hd
  have hbF : b ∈ F := by rw [N.hF]; exact List.mem_cons_self ..
  have in1 : ∀ i ∈ F1, i ∈ F := fun i hi => by rw [N.hF]; exact List.mem_cons_of_mem _ (List.mem_append_left _ hi)
  have in2 : ∀ i ∈ F2, i ∈ F := fun i hi => by rw [N.hF]; exact List.mem_cons_of_mem _ (List.mem_append_right _ hi)
  have klt : kidZ p1 = false ∨ kidZ p2 = false → k < 32 := fun q => by
    rcases q with q | q
    · obtain ⟨_, _, _, _, _, _, _, _, n⟩ := N.k1.opn (z1p q); have := n.hk; omega
    · obtain ⟨_, _, _, _, _, _, _, _, n⟩ := N.k2.opn (z2p q); have := n.hk; omega
  generalize hβ : waNm b p1 p2 F1 F2 lo lt cap = β0
  have b4 : β0 4 = b := by rw [← hβ]; rfl
  have b6 : β0 6 = kidA p1 := by rw [← hβ]; rfl
  have b7 : β0 7 = bitsOf F1 := by rw [← hβ]; rfl
  have b8 : β0 8 = kidA p2 := by rw [← hβ]; rfl
  have b9 : β0 9 = bitsOf F2 := by rw [← hβ]; rfl
  have b10 : β0 10 = lo := by rw [← hβ]; rfl
  have b12 : β0 12 = lt := by rw [← hβ]; rfl
  have b13 : β0 13 = cap := by rw [← hβ]; rfl
  have o6 : kidZ p1 = false → BkOk (waE k a o s v c1 c2 rows) β0 w own6r := fun q => by
    show ∃ G, Sub w none (k + 1) a (ptv (β0 6)) G c1 ∧ ∀ i, (β0 7).testBit i = true ↔ i ∈ G
    rw [b6, b7]
    refine ⟨F1, ?_, fun i => bitsOf_test i F1⟩
    rw [← z1p q]
    exact N.k1
  have o8 : kidZ p2 = false → BkOk (waE k a o s v c1 c2 rows) β0 w own8r := fun q => by
    show ∃ G, Sub w none (k + 1) (a + wid (k + 1)) (ptv (β0 8)) G c2 ∧ ∀ i, (β0 9).testBit i = true ↔ i ∈ G
    rw [b8, b9]
    refine ⟨F2, ?_, fun i => bitsOf_test i F2⟩
    rw [← z2p q]
    exact N.k2
  have f6 : kidZ p1 = false → ∀ i, fp β0 own6r i → i ∈ F1 := fun q i hi => by
    have hr : kidA p1 ∈ F1 := by
      have := N.k1
      rw [z1p q] at this
      exact this.root_in
    rcases hi with hi | ⟨_, hi⟩
    · change i = β0 6 at hi
      rw [hi, b6]; exact hr
    · change (β0 7).testBit i = true at hi
      rw [b7] at hi
      exact (bitsOf_test i F1).1 hi
  have f8 : kidZ p2 = false → ∀ i, fp β0 own8r i → i ∈ F2 := fun q i hi => by
    have hr : kidA p2 ∈ F2 := by
      have := N.k2
      rw [z2p q] at this
      exact this.root_in
    rcases hi with hi | ⟨_, hi⟩
    · change i = β0 8 at hi
      rw [hi, b8]; exact hr
    · change (β0 9).testBit i = true at hi
      rw [b9] at hi
      exact (bitsOf_test i F2).1 hi
  have hB4 : BkOk (waE k a o s v c1 c2 rows) β0 w (ndB o.isSome (kidZ p1) (kidZ p2) false) := by
    show Blk w (β0 4) (bif o.isSome then 165 else 163) (denL (waE k a o s v c1 c2 rows) β0 (kc 6 (kidZ p1) :: kc 8 (kidZ p2) :: Sy.C.bool (.bv 32) :: Sy.C.int .i64 (.iv 33) :: (bif o.isSome then [Sy.C.int .i64 (.iv 34)] else [])))
    have hden := nd_den (h := 32) waE_nd (ρ := waE k a o s v c1 c2 rows) (o := o) (st := s) (v := v) β0 (kc 6 (kidZ p1)) (kc 8 (kidZ p2))
    rw [show (32 + 1 : Nat) = 33 from rfl, show (32 + 2 : Nat) = 34 from rfl] at hden
    rw [hden, kc_den N.k1 _ _ 6 b6, kc_den N.k2 _ _ 8 b8, b4]
    have hB := N.blk
    cases o <;> exact hB
  have hBx : BkOk (waE k a o s v c1 c2 rows) β0 w (waBx 12 (tlen (.cv 3))) := by
    show Blk w (β0 10) 97 [sltZ (β0 12) (β0 13) 2 0 ((rows.length : Int)).toNat 0]
    rw [sltZ_zero, b10, b12, b13, Int.toNat_natCast]
    exact W.hold.obj
  have hTb : BkOk (waE k a o s v c1 c2 rows) β0 w (waTb 12 (.cv 3)) := by
    show RowT w (β0 12) (β0 13) 29 xLv rows
    rw [b12, b13]
    exact W.hold.tab
  have one : ∀ {x : Bk} {i : Nat}, x.own = false → fp β0 x i → i = β0 x.l := fun hx hi => fp_one hx hi
  have rT : (waTb 12 (.cv 3)).real β0 → cap ≠ 0 := fun hr e => (hr.resolve_left (by simp [waTb, Bk.nilable, Xt.isTab])) (b13.trans e)
  have ap4B : apart β0 (ndB o.isSome (kidZ p1) (kidZ p2) false) (waBx 12 (tlen (.cv 3))) := apart.of rfl rfl (by show β0 4 ≠ β0 10; rw [b4, b10]; exact fun e => W.lo0 (e ▸ hbF))
  have ap4T : (waTb 12 (.cv 3)).real β0 → apart β0 (ndB o.isSome (kidZ p1) (kidZ p2) false) (waTb 12 (.cv 3)) := fun hr => apart.of rfl rfl (by show β0 4 ≠ β0 12; rw [b4, b12]; exact fun e => W.lt0 (rT hr) (e ▸ hbF))
  have apBT : (waTb 12 (.cv 3)).real β0 → apart β0 (waBx 12 (tlen (.cv 3))) (waTb 12 (.cv 3)) := fun hr => apart.of rfl rfl (by show β0 10 ≠ β0 12; rw [b10, b12]; exact fun e => W.hold.ne (rT hr) e.symm)
  have ap46 : kidZ p1 = false → apart β0 (ndB o.isSome (kidZ p1) (kidZ p2) false) own6r := fun q i h1 h2 => by
    have e := one rfl h1
    change i = β0 4 at e
    rw [b4] at e
    subst e
    exact hd0 (List.mem_append_left _ (f6 q i h2))
  have ap48 : kidZ p2 = false → apart β0 (ndB o.isSome (kidZ p1) (kidZ p2) false) own8r := fun q i h1 h2 => by
    have e := one rfl h1
    change i = β0 4 at e
    rw [b4] at e
    subst e
    exact hd0 (List.mem_append_right _ (f8 q i h2))
  have apB6 : kidZ p1 = false → apart β0 (waBx 12 (tlen (.cv 3))) own6r := fun q i h1 h2 => by
    have e := one rfl h1
    change i = β0 10 at e
    rw [b10] at e
    subst e
    exact W.lo0 (in1 _ (f6 q i h2))
  have apB8 : kidZ p2 = false → apart β0 (waBx 12 (tlen (.cv 3))) own8r := fun q i h1 h2 => by
    have e := one rfl h1
    change i = β0 10 at e
    rw [b10] at e
    subst e
    exact W.lo0 (in2 _ (f8 q i h2))
  have ap6T : kidZ p1 = false → (waTb 12 (.cv 3)).real β0 → apart β0 own6r (waTb 12 (.cv 3)) := fun q hr i h1 h2 => by
    have e := one rfl h2
    change i = β0 12 at e
    rw [b12] at e
    subst e
    exact W.lt0 (rT hr) (in1 _ (f6 q i h1))
  have ap8T : kidZ p2 = false → (waTb 12 (.cv 3)).real β0 → apart β0 own8r (waTb 12 (.cv 3)) := fun q hr i h1 h2 => by
    have e := one rfl h2
    change i = β0 12 at e
    rw [b12] at e
    subst e
    exact W.lt0 (rT hr) (in2 _ (f8 q i h1))
  have ap68 : kidZ p1 = false → kidZ p2 = false → apart β0 own6r own8r := fun q1 q2 i h1 h2 => hd3 i (f6 q1 i h1) i (f8 q2 i h2) rfl
  have myB : ∀ i, fp β0 (waBx 12 (tlen (.cv 3))) i → hoS lo lt cap i := fun i hi => .inl ((one rfl hi).trans b10)
  have myT : (waTb 12 (.cv 3)).real β0 → ∀ i, fp β0 (waTb 12 (.cv 3)) i → hoS lo lt cap i := fun hr i hi => .inr ⟨rT hr, (one rfl hi).trans b12⟩
  obtain ⟨u0, u1, u2, u3⟩ := wa_all N a0 al a1 (fun q => (z1c q).1) (fun q => (z2c q).1) (rows := rows)
  have hcl : c.length = (ownR s a k v).length + (c1.length + c2.length) := by rw [N.hc, List.length_append, List.length_append]
  have hpc : pcs (waE k a o s v c1 c2 rows) (waPc (kidZ p1) (kidZ p2) s) := by
    refine pcs_of fun t ht => ?_
    unfold waPc at ht
    rcases List.mem_cons.1 ht with rfl | ht
    · cases s <;> rfl
    have eor0 : bits .or .u32 a 0 = a := bor0 a0 (by omega)
    have ek1 : (k : Int) + 1 = ((k + 1 : Nat) : Int) := by omega
    rcases List.mem_append.1 ht with ht | ht
    · cases q1 : kidZ p1 with
      | true => rw [q1] at ht; cases ht
      | false =>
        rw [q1] at ht
        change t ∈ [_, _, _] at ht
        simp only [List.mem_cons, List.not_mem_nil, or_false] at ht
        rcases ht with rfl | rfl | rfl
        · rw [t_eq]; exact eor0
        · rw [t_eq]; exact ek1
        · rw [t_le]
          show ((den (waE k a o s v c1 c2 rows) (waU s)).c.length : Int) + (c1.length : Int) ≤ 1000
          rw [u0, List.length_append, alR_len]
          omega
    rcases List.mem_append.1 ht with ht | ht
    · cases q2 : kidZ p2 with
      | true => rw [q2] at ht; cases ht
      | false =>
        rw [q2] at ht
        change t ∈ [_, _, _] at ht
        simp only [List.mem_cons, List.not_mem_nil, or_false] at ht
        have hk := klt (.inr q2)
        rcases ht with rfl | rfl | rfl
        · rw [t_eq]
          have hm : (31 - (k : Int)).toNat = 31 - k := by omega
          have hw : (2 : Int) ^ (31 - k) = wid (k + 1) := by unfold wid; congr 1; omega
          have hdv : a % 2 ^ (31 - k + 1) = 0 := by
            have : (2 : Int) ^ (31 - k + 1) = wid k := by unfold wid; congr 1; omega
            rw [this]
            exact mod_dvd al
          have := (bor1 (m := 31 - k) (by omega) a0 (by omega) hdv).1
          show bits .or .u32 a (2 ^ (31 - (k : Int)).toNat) = a + wid (k + 1)
          rw [hm, this, hw]
        · rw [t_eq]; exact ek1
        · rw [t_le]
          show ((den (waE k a o s v c1 c2 rows) (waU1 (kidZ p1) s)).c.length : Int) + (c2.length : Int) ≤ 1000
          rw [u1, List.length_append, alR_len, List.length_append]
          omega
    · cases q1 : kidZ p1 with
      | true => rw [q1] at ht; cases ht
      | false =>
        cases q2 : kidZ p2 with
        | true => rw [q1, q2] at ht; cases ht
        | false =>
          rw [q1, q2] at ht
          change t ∈ [_, _] at ht
          simp only [List.mem_cons, List.not_mem_nil, or_false] at ht
          rw [q1] at u1
          have eL : (den (waE k a o s v c1 c2 rows) (waL1 s)).i = ((den (waE k a o s v c1 c2 rows) (waU1 false s)).c.length : Int) := by
            rw [u1]
            cases s with
            | true =>
              show (rows.length : Int) + ((alR c1).length : Int) + 1 = _
              rw [List.length_append, alR_len, alR_len, List.length_append]
              show _ = ((rows.length + (1 + c1.length) : Nat) : Int)
              omega
            | false =>
              show (rows.length : Int) + ((alR c1).length : Int) = _
              rw [List.length_append, alR_len, alR_len, List.length_append]
              show _ = ((rows.length + (0 + c1.length) : Nat) : Int)
              omega
          rcases ht with rfl | rfl
          · rw [t_le, eL]; exact Int.le_refl _
          · rw [t_le, eL]; exact Int.le_refl _
  have hcx : (waSt o.isSome (kidZ p1) (kidZ p2) s).cx.ok (waE k a o s v c1 c2 rows) := by
    refine cxP ⟨?_, ?_, ?_, ?_, ?_, ?_, ?_, trivial⟩ hpc
    · show _ ≤ v ∧ v ≤ _
      exact ⟨N.v0, N.v1⟩
    · show (0 : Int) ≤ o.getD 0 ∧ o.getD 0 ≤ 64
      cases o with
      | none => exact ⟨by show (0 : Int) ≤ 0; omega, by show (0 : Int) ≤ 64; omega⟩
      | some m => exact ho m rfl
    · show (0 : Int) ≤ a ∧ a ≤ 4294967295; omega
    · show (0 : Int) ≤ (k : Int) ∧ (k : Int) ≤ (bif kidZ p1 && kidZ p2 then 32 else 31)
      cases q1 : kidZ p1 with
      | false => have := klt (.inl q1); show (0 : Int) ≤ (k : Int) ∧ (k : Int) ≤ 31; omega
      | true => cases q2 : kidZ p2 with
        | false => have := klt (.inr q2); show (0 : Int) ≤ (k : Int) ∧ (k : Int) ≤ 31; omega
        | true => show (0 : Int) ≤ (k : Int) ∧ (k : Int) ≤ 32; omega
    · show (0 : Int) ≤ (rows.length : Int) ∧ (rows.length : Int) ≤ 1000; omega
    · show (0 : Int) ≤ (c1.length : Int) ∧ (c1.length : Int) ≤ 1000; omega
    · show (0 : Int) ≤ (c2.length : Int) ∧ (c2.length : Int) ≤ 1000; omega
  have hM : Md (waE k a o s v c1 c2 rows) (hoS lo lt cap) w β0 14 (waSt o.isSome (kidZ p1) (kidZ p2) s) β0 ⟨#[], []⟩ w := by
    refine Sy.Md.init ?_ ?_ ?_ hcx rfl
    · show hpP _ _ _ (waHp o.isSome (kidZ p1) (kidZ p2))
      unfold waHp waOwn
      refine ⟨hB4, hBx, ?_⟩
      cases q1 : kidZ p1 <;> cases q2 : kidZ p2
      · exact ⟨o6 q1, o8 q2, hTb, trivial⟩
      · exact ⟨o6 q1, hTb, trivial⟩
      · exact ⟨o8 q2, hTb, trivial⟩
      · exact ⟨hTb, trivial⟩
    · show neP _ (waHp o.isSome (kidZ p1) (kidZ p2))
      unfold waHp waOwn
      cases q1 : kidZ p1 <;> cases q2 : kidZ p2 <;> rw [q1, q2] at ap46 ap48 ap4B ap4T
      · exact ⟨⟨fun _ _ => ap4B, fun _ _ => ap46 rfl, fun _ _ => ap48 rfl, fun _ h => ap4T h, trivial⟩, ⟨fun _ _ => apB6 q1, fun _ _ => apB8 q2, fun _ h => apBT h, trivial⟩, ⟨fun _ _ => ap68 q1 q2, fun _ h => ap6T q1 h, trivial⟩, ⟨fun _ h => ap8T q2 h, trivial⟩, trivial, trivial⟩
      · exact ⟨⟨fun _ _ => ap4B, fun _ _ => ap46 rfl, fun _ h => ap4T h, trivial⟩, ⟨fun _ _ => apB6 q1, fun _ h => apBT h, trivial⟩, ⟨fun _ h => ap6T q1 h, trivial⟩, trivial, trivial⟩
      · exact ⟨⟨fun _ _ => ap4B, fun _ _ => ap48 rfl, fun _ h => ap4T h, trivial⟩, ⟨fun _ _ => apB8 q2, fun _ h => apBT h, trivial⟩, ⟨fun _ h => ap8T q2 h, trivial⟩, trivial, trivial⟩
      · exact ⟨⟨fun _ _ => ap4B, fun _ h => ap4T h, trivial⟩, ⟨fun _ h => apBT h, trivial⟩, trivial, trivial⟩
    · show mayP _ _ (waHp o.isSome (kidZ p1) (kidZ p2))
      unfold waHp waOwn
      refine ⟨fun q => (by cases q), fun _ _ i hi => myB i hi, ?_⟩
      cases q1 : kidZ p1 <;> cases q2 : kidZ p2
      · exact ⟨fun q => (by cases q), fun q => (by cases q), fun _ hr i hi => myT hr i hi, trivial⟩
      · exact ⟨fun q => (by cases q), fun _ hr i hi => myT hr i hi, trivial⟩
      · exact ⟨fun q => (by cases q), fun _ hr i hi => myT hr i hi, trivial⟩
      · exact ⟨fun _ hr i hi => myT hr i hi, trivial⟩
  have hh : k < 32 → wid k = 2 * wid (k + 1) := fun h => wid_half h
  have hsp : kidZ p1 = false ∨ kidZ p2 = false → waSp.Ok Try.prog (waE k a o s v c1 c2 rows) := fun q => by
    have hk := klt q
    have hw1 := wid_pos (k + 1)
    have hhk := hh hk
    obtain ⟨l1, l2⟩ := al_kid hk al
    refine waSp_ok rfl fun j hj => ?_
    show ∃ o' k' a', (if j = 2 then subT none (k + 1) (a + wid (k + 1)) else subT none (k + 1) a) = subT o' k' a' ∧ _
    by_cases h2 : j = 2
    · subst h2
      exact ⟨none, k + 1, a + wid (k + 1), rfl, rfl, rfl, ⟨by omega, l2, by omega⟩, fun h => ih h⟩
    · have : j = 0 ∨ j = 1 := by omega
      rcases this with rfl | rfl
      · exact ⟨none, k + 1, a, rfl, rfl, rfl, ⟨a0, l1, by omega⟩, fun h => ih h⟩
      · exact ⟨none, k + 1, a, rfl, rfl, rfl, ⟨a0, l1, by omega⟩, fun h => ih h⟩
  have hargs : (#[ptv b, pfV a k, fnV1 lo] : Array Value) = (waA.map (SV.den (waE k a o s v c1 c2 rows) β0)).toArray := by
    show _ = (#[ptv (β0 4), pfV a k, fnV1 (β0 10)] : Array Value)
    rw [b4, b10]
  have hg : (waE k a o s v c1 c2 rows).good := fun i => rfl
  by_cases hq : kidZ p1 = false ∨ kidZ p2 = false
  · refine calls_sm (B := ⟨waE k a o s v c1 c2 rows, hoS lo lt cap, w, β0, 14⟩) (sp := [waSp]) hg (fun q hq' => by rw [List.mem_singleton.1 hq']; exact hsp hq) 10 400 Try.func93 rfl waA (waSt o.isSome (kidZ p1) (kidZ p2) s) _ 14 rfl (wa_run _ _ _ _) hM (R := WaPost w lo lt cap rows c) ⟨?_, trivial⟩ hargs
    intro _ β w2 hH
    subst hβ
    exact ⟨rfl, wa_leaf N a0 al a1 (fun q => (z1c q).1) (fun q => (z2c q).1) hH⟩
  · have q1 : kidZ p1 = true := by cases q : kidZ p1 with | true => rfl | false => exact absurd (.inl q) hq
    have q2 : kidZ p2 = true := by cases q : kidZ p2 with | true => rfl | false => exact absurd (.inr q) hq
    have hrun : smR Try.prog Try.f93 14 (run Try.prog [] 10 400 14 (.code (bodyOf Try.f93)) (enterS Try.f93 waA (waSt o.isSome (kidZ p1) (kidZ p2) s))) = some [.ret (.tup []) (waLf o.isSome (kidZ p1) (kidZ p2) s) (waPc (kidZ p1) (kidZ p2) s)] := by
      rw [q1, q2]; exact wa_run0 _ _
    refine calls_sm (B := ⟨waE k a o s v c1 c2 rows, hoS lo lt cap, w, β0, 14⟩) (sp := []) hg (fun q hq' => by cases hq') 10 400 Try.func93 rfl waA (waSt o.isSome (kidZ p1) (kidZ p2) s) _ 14 rfl hrun hM (R := WaPost w lo lt cap rows c) ⟨?_, trivial⟩ hargs
    intro _ β w2 hH
    subst hβ
    exact ⟨rfl, wa_leaf N a0 al a1 (fun q => (z1c q).1) (fun q => (z2c q).1) hH⟩
end
theorem walk_calls : ∀ (d : Nat) {w : World} {o : Option Int} {k : Nat} {a : Int} {b : Nat} {F : List Nat} {c : Rws} {lo lt cap : Nat} {rows : Rws}, 33 ≤ k + d → (∀ m, o = some m → 0 ≤ m ∧ m ≤ 64) → WaPre w o k a b F c lo lt cap rows → Calls Try.prog 93 #[ptv b, pfV a k, fnV1 lo] w (RetP (WaPost w lo lt cap rows c))
  | 0, w, o, k, a, b, F, c, lo, lt, cap, rows, hd, ho, W => by
    obtain ⟨_, _, _, _, _, _, _, _, N⟩ := W.sub.opn rfl
    have := N.hk
    omega
  | d + 1, w, o, k, a, b, F, c, lo, lt, cap, rows, hd, ho, W => by
    obtain ⟨_, _, _, _, _, _, _, _, N⟩ := W.sub.opn rfl
    exact wa_step W N ho fun h' => walk_calls d (by omega) (fun m q => by cases q) h'
end Go.Proofs.Ytnjpoidpfcfbeaa
/- Routes: the contract of Table.All. -/
namespace Go.Proofs.Ytnjpoidpfcfbeaa
open Go.RowKit Sy
set_option linter.unusedVariables false
set_option linter.unusedSimpArgs false

def alP : List Nat := [1, 1]
def alA : List SV := [.one (.c (.ptr 0 0))]
def alO : Bk := ownBr 0 1 0 165 false (.cv 0)
def alBs : List Bd := [⟨tlen (.cv 0), 0, 64⟩, ⟨.iv 22, 0, 0⟩, ⟨.iv 25, 0, 0⟩]
def alSt : Sy.St := ⟨[], [alO], ⟨alBs, []⟩, 40⟩
def alR0 (P : Program) (fn : Func) : Rs := run P [] 10 400 4 (.code (pre alP (bodyOf fn))) (enterS fn alA alSt)
def alS1 (P : Program) (fn : Func) : Sy.St := tabCell (lfAt (alR0 P fn) 0) 40 0 20 29 xLv
def alR1 (P : Program) (fn : Func) : Rs := run P [waSp] 10 400 4 (.code (Sy.sub alP (bodyOf fn))) (alS1 P fn)
def alT : Tm := waNew tn (.cv 0)
set_option maxRecDepth 100000 in
theorem al_run0 : shR 4 none (alR0 Try.prog Try.f57) = some [.out 0 .normal []] := by kernel_rfl
set_option maxRecDepth 100000 in
theorem al_run1 : smR Try.prog Try.f57 4 (alR1 Try.prog Try.f57) = some [.must (.le (.add (tlen tn) (tlen (.cv 0))) (.il 1000)) [], .ret (.one (.c (.slt 42 2 (.il 0) (tlen alT) (.il 0)))) [waTb 42 alT, alO] [(.le (.add (tlen tn) (tlen (.cv 0))) (.il 1000))]] := by kernel_rfl
set_option maxRecDepth 100000 in
theorem al_free : ((lfAt (alR0 Try.prog Try.f57) 0).free 20 && (lfAt (alR0 Try.prog Try.f57) 0).free 21) = true := by kernel_rfl
def alE (C : Rws) : Env := { mkEnv0 [] [] [] [] with c := fun n => if n = 0 then C else [], f := rtF, o := fun _ => subT (some (C.length : Int)) 0 0 }
theorem al_calls {w : World} {g : Nat} {F : List Nat} {C : Rws} (h : Sub w (some (C.length : Int)) 0 0 (ptv g) F C) (l64 : C.length ≤ 64) : Calls Try.prog 57 #[ptv g] w (RetP fun v w' => NewTab w w' v 29 xLv (alR C)) := by
  have hgF := h.root_in
  have hg : (alE C).good := fun i => rfl
  have hcx : alSt.cx.ok (alE C) := by
    refine cxP ⟨?_, ?_, ?_, trivial⟩ trivial
    · show (0 : Int) ≤ (C.length : Int) ∧ (C.length : Int) ≤ 64; omega
    · exact ⟨Int.le_refl _, Int.le_refl _⟩
    · exact ⟨Int.le_refl _, Int.le_refl _⟩
  have hM0 : Md (alE C) No w (gF g F) 4 alSt (gF g F) ⟨#[], []⟩ w := by
    refine Sy.Md.init ⟨?_, trivial⟩ ⟨trivial, trivial⟩ ⟨fun q => (by cases q), trivial⟩ hcx rfl
    exact ⟨F, h, fun i => bitsOf_test i F⟩
  refine calls_pre (B := ⟨alE C, No, w, gF g F, 4⟩) (sp := []) (p := alP) (xs := alA) (s := alSt) (r := alR0 Try.prog Try.f57) hg (fun q hq => by cases hq) rfl Try.func57 rfl rfl al_run0 hM0 ⟨?_, trivial⟩ rfl
  intro hpc β ac w1 M
  have q := al_free
  simp only [Bool.and_eq_true] at q
  obtain ⟨β1, M1⟩ := Sy.Md.tabCell (show Md (alE C) No w (gF g F) 4 (lfAt (alR0 Try.prog Try.f57) 0) β ac w1 from M) 40 0 20 29 xLv (by decide) q.1 q.2
  have c2 : ∀ (c : Code) (Q : Exit → Act → World → Prop), ctx Try.prog [1, 1] c Q = Q := fun c Q => by
    cases c with
    | seq a b => cases b <;> rfl
    | _ => rfl
  show (Sy.sub alP (bodyOf Try.f57)).wp Try.prog (ctx Try.prog [1, 1] (bodyOf Try.f57) _) ac w1
  rw [c2]
  refine tail_fin (B := ⟨alE C, No, w, gF g F, 4⟩) (sp := [waSp]) hg (fun q hq => ?_) al_run1 ⟨?_, ?_, trivial⟩ M1
  · rw [List.mem_singleton.1 hq]
    exact waSp_ok rfl fun j _ => ⟨some (C.length : Int), 0, 0, rfl, rfl, rfl, ⟨Int.le_refl _, ⟨0, by simp⟩, by rw [wid_0]; decide⟩, fun W => walk_calls 33 (by omega) (fun m q => by injection q with q; omega) W⟩
  · intro _
    rw [t_le]
    show ((([] : Rws).length : Int)) + (C.length : Int) ≤ 1000
    show (0 : Int) + (C.length : Int) ≤ 1000
    omega
  · intro _ β2 w2 hH
    have eT : (den (alE C) alT).c = alR C := rfl
    have mT : waTb 42 alT ∈ [waTb 42 alT, alO] := List.mem_cons_self ..
    have hT : RowT w2 (β2 42) (β2 43) 29 xLv (den (alE C) alT).c := hH.hp _ mT
    rw [eT] at hT
    refine ⟨below_no hH.only, β2 42, β2 43, ?_, hT, ?_⟩
    · show sltZ (β2 42) (β2 43) 2 0 (((den (alE C) alT).c.length : Int)).toNat 0 = _
      rw [sltZ_zero, eT, Int.toNat_natCast]
    · by_cases hc : β2 43 = 0
      · exact .inl hc
      · exact .inr ((hH.may0 _ mT rfl (.inr hc)).resolve_left fun q => q)
/-! Find. -/
def ffP : List Nat := [1, 1, 0, 1, 2]
def ffA : List SV := [.one (.c (.ptr 0 0)), .one (.c (.int .u32 (.iv 20)))]
def ffSt : Sy.St := ⟨[], [], ⟨[u32B 20], []⟩, 40⟩
def ffR0 (P : Program) (fn : Func) : Rs := run P [] 10 400 4 (.code (pre ffP (bodyOf fn))) (enterS fn ffA ffSt)
def ffBx : Bk := ⟨40, 29, [.int .u32 (.iv 24), .int .i64 (.iv 25)], true, none, .no⟩
def ffBs : List Bd := [⟨.iv 22, 0, 32⟩, u32B 20, i64B 23, u32B 24, i64B 25]
def ffT (P : Program) (fn : Func) (z : Bool) : Sy.St := tplK (lfAt (ffR0 P fn) 0) [0, 1, 5] [(4, .one (.c (.int .i64 (.iv 23)))), (6, .one (.c (.bool (.bv 23)))), (7, .one (.c (kc 4 z))), (8, .one (.c (.int .i64 (.iv 22))))] [ffBx] ⟨ffBs, []⟩ 50
def ffLo (fn : Func) : Code := lpBody (Sy.sub ffP (bodyOf fn))
def ffKb (e : Bool) : Bd := bif e then ⟨.iv 22, 32, 32⟩ else ⟨.iv 22, 0, 31⟩
def ffN (P : Program) (fn : Func) (rt z1 z2 s e : Bool) : Sy.St := { ffT P fn false with hp := ndB rt z1 z2 false :: (ffT P fn false).hp, cx := ⟨ffKb e :: (ndBs 32 ++ ffBs), [sT s]⟩ }
def ffR1 (P : Program) (fn : Func) (rt d z1 z2 s e : Bool) : Rs := run P [btSp d 22] 10 400 10 (.code (ffLo fn)) (ffN P fn rt z1 z2 s e)
def ffRn (P : Program) (fn : Func) : Rs := run P [] 10 400 10 (.code (ffLo fn)) (ffT P fn true)
end Go.Proofs.Ytnjpoidpfcfbeaa
/- Routes: the contract of Table.Find. -/
namespace Go.Proofs.Ytnjpoidpfcfbeaa
open Go.RowKit Sy
set_option linter.unusedVariables false
set_option linter.unusedSimpArgs false

def ffX (P : Program) (fn : Func) : Sy.St := tplK { ffT P fn true with hp := [ffBx], cx := ⟨[i64B 23, u32B 24, i64B 25], []⟩ } [1, 4, 5, 6] [] [] ⟨[i64B 23, u32B 24, i64B 25], []⟩ 50
def ffAs (s e : Bool) : List As := (bif s then [.i 23 (.iv 33), .b 23 (.bl true)] else []) ++ ((bif e then [] else [.i 22 (.add (.iv 22) (.il 1))]) ++ (bif s then [.i 24 (bif e then .mul (.dv (.iv 20) (.pw (.sub (.il 32) (.iv 22)))) (.pw (.sub (.il 32) (.iv 22))) else .md (.mul (.dv (.iv 20) (.pw (.sub (.il 32) (.iv 22)))) (.pw (.sub (.il 32) (.iv 22)))) (.il 4294967296)), .i 25 (.iv 22)] else []))
set_option maxRecDepth 100000 in
theorem ff_run0 : shR 4 none (ffR0 Try.prog Try.f59) = some [.out 0 .normal []] := by kernel_rfl
set_option maxRecDepth 100000 in
theorem ff_in : (matchS 4 (ffT Try.prog Try.f59 false) (lfAt (ffR0 Try.prog Try.f59) 0)).map (fun l => (noU l, rnL l 4)) = some ([.i 23 (.il 0), .b 23 (.bl false), .i 22 (.il 0), .i 24 (.il 0), .i 25 (.il 0)], 0) := by kernel_rfl
set_option maxRecDepth 100000 in
theorem ff_loop : Sy.sub ffP (bodyOf Try.f59) = .loop (ffLo Try.f59) := by kernel_rfl
set_option maxRecDepth 100000 in
theorem ff_hp : ∀ z : Bool, (ffT Try.prog Try.f59 z).hp = [ffBx] ∧ (ffT Try.prog Try.f59 z).cx = ⟨ffBs, []⟩
  | true => ⟨by kernel_rfl, by kernel_rfl⟩
  | false => ⟨by kernel_rfl, by kernel_rfl⟩
set_option maxRecDepth 100000 in
theorem ff_low : (lowSt 32 (ffT Try.prog Try.f59 false) && (((ffT Try.prog Try.f59 false).free 6 && (ffT Try.prog Try.f59 false).free 7) && ((ffT Try.prog Try.f59 false).free 8 && (ffT Try.prog Try.f59 false).free 9))) = true := by kernel_rfl
set_option maxRecDepth 100000 in
theorem ff_run1 : ∀ rt d z1 z2 s : Bool, shR 10 none (ffR1 Try.prog Try.f59 rt d z1 z2 s false) = some [.out 0 .normal [sT s]] := by
  intro rt d z1 z2 s
  cases rt <;> cases d <;> cases z1 <;> cases z2 <;> cases s <;> kernel_rfl
set_option maxRecDepth 100000 in
theorem ff_run2 : ∀ rt z1 z2 s : Bool, shR 10 none (ffR1 Try.prog Try.f59 rt true z1 z2 s true) = some [.out 0 (.exit 0) [sT s]] := by
  intro rt z1 z2 s
  cases rt <;> cases z1 <;> cases z2 <;> cases s <;> kernel_rfl
set_option maxRecDepth 100000 in
theorem ff_m1 : ∀ rt d z1 z2 s : Bool, (matchS 4 (ffT Try.prog Try.f59 (bif d then z2 else z1)) (lfAt (ffR1 Try.prog Try.f59 rt d z1 z2 s false) 0)).map (fun l => (noU l, rnL l 4)) = some (ffAs s false, bif (bif d then z2 else z1) then 4 else (bif d then 8 else 6)) := by
  intro rt d z1 z2 s
  cases rt <;> cases d <;> cases z1 <;> cases z2 <;> cases s <;> kernel_rfl
set_option maxRecDepth 100000 in
theorem ff_m2 : ∀ rt z1 z2 s : Bool, (matchS 4 (ffX Try.prog Try.f59) (lfAt (ffR1 Try.prog Try.f59 rt true z1 z2 s true) 0)).map (fun l => (noU l, rnL l 4)) = some (ffAs s true, 4) := by
  intro rt z1 z2 s
  cases rt <;> cases z1 <;> cases z2 <;> cases s <;> kernel_rfl
set_option maxRecDepth 100000 in
theorem ff_runN : shR 10 none (ffRn Try.prog Try.f59) = some [.out 0 (.exit 0) []] := by kernel_rfl
set_option maxRecDepth 100000 in
theorem ff_mN : (matchS 4 (ffX Try.prog Try.f59) (lfAt (ffRn Try.prog Try.f59) 0)).map (fun l => (noU l, rnL l 4)) = some ([], 4) := by kernel_rfl
set_option maxRecDepth 100000 in
theorem ff_xcx : (ffX Try.prog Try.f59).cx = ⟨[i64B 23, u32B 24, i64B 25], []⟩ := by kernel_rfl
set_option maxRecDepth 100000 in
theorem ff_end : smR Try.prog Try.f59 4 (run Try.prog [] 10 400 4 (.code (aft (.exit 0) ffP (bodyOf Try.f59))) (ffX Try.prog Try.f59)) = some [.ret (.tup [.c (.int .i64 (.iv 23)), .agg [.int .u32 (.iv 24), .int .i64 (.iv 25)], .c (.bool (.bv 23))]) [] []] := by kernel_rfl
/-! Plainly. -/
theorem has_no {x : Int} {r : List Value} (h : x < rAd r ∨ rAd r + wid (rBi r).toNat ≤ x) : hasB x r = false := by
  unfold hasB
  exact decide_eq_false fun q => by omega
section
variable {w0 w : World} {F0 : List Nat} {g : Nat} {m : Int} {pre post : Rws} {o : Option Int} {k : Nat} {ak : Int} {b : Nat} {F : List Nat} {c : Rws} {p1 p2 : Value} {F1 F2 : List Nat} {c1 c2 : Rws} {s : Bool} {v x : Int} {best : Option (List Value)}
def ffB (s : Bool) (best : Option (List Value)) (ak : Int) (k : Nat) (v : Int) : Option (List Value) := bif s then some (mkR ak k v) else best
theorem ff_own (N : Nd w o k ak b F c p1 p2 F1 F2 c1 c2 s v) (a0 : 0 ≤ ak) (al : wid k ∣ ak) (a1 : ak + wid k ≤ 4294967296) (x0 : ak ≤ x) (x1 : x < ak + wid k) (hb : ∀ q, best = some q → rBi q < k) : (ownR s ak k v).foldl (fiS x) best = ffB s best ak k v := by
  cases s with
  | false => rfl
  | true =>
    show fiS x best (mkR ak k v) = some (mkR ak k v)
    obtain ⟨g0, g1, g2, g3⟩ := InP.own N.hk a0 al a1 N.v0 N.v1
    unfold fiS
    have h1 : hasB x (mkR ak k v) = true := by
      unfold hasB
      refine decide_eq_true ⟨g0.ok.chk, by rw [g1]; exact x0, ?_⟩
      rw [g1, g2, Int.toNat_natCast]
      omega
    have h2 : betB best (mkR ak k v) = true := by
      unfold betB
      cases hq : best with
      | none => rfl
      | some q => exact decide_eq_true (by rw [g2]; exact hb q hq)
    rw [h1, h2]
    rfl
theorem ff_c1 (N : Nd w o k ak b F c p1 p2 F1 F2 c1 c2 s v) (a0 : 0 ≤ ak) (al : wid k ∣ ak) (a1 : ak + wid k ≤ 4294967296) (hk : k < 32) (hd : ak + wid (k + 1) ≤ x) (y : Option (List Value)) : c1.foldl (fiS x) y = y := by
  have hh := wid_half hk
  have hw := wid_pos (k + 1)
  obtain ⟨l1, _⟩ := al_kid hk al
  exact fold_skip fun r hr => has_no (.inr (by have := (N.k1.rows a0 l1 (by omega) r hr).hi; omega))
theorem ff_c2 (N : Nd w o k ak b F c p1 p2 F1 F2 c1 c2 s v) (a0 : 0 ≤ ak) (al : wid k ∣ ak) (a1 : ak + wid k ≤ 4294967296) (hk : k < 32) (hd : x < ak + wid (k + 1)) (y : Option (List Value)) : c2.foldl (fiS x) y = y := by
  have hh := wid_half hk
  have hw := wid_pos (k + 1)
  obtain ⟨_, l2⟩ := al_kid hk al
  exact fold_skip fun r hr => has_no (.inl (by have := (N.k2.rows (by omega) l2 (by omega) r hr).lo; omega))
theorem ff_post (P : Place w0 F0 g m pre post w o k ak b F c) (hg : ∀ r ∈ post, RRow r) (x1 : x < ak + wid k) (y : Option (List Value)) : post.foldl (fiS x) y = y :=
  fold_skip fun r hr => has_no (.inl (by
    have h1 := P.hi r hr
    have h2 := (hg r hr).n1
    unfold key at h1
    omega))
theorem ffB_lt (hb : ∀ q, best = some q → rBi q < k) (N : Nd w o k ak b F c p1 p2 F1 F2 c1 c2 s v) (a0 : 0 ≤ ak) (al : wid k ∣ ak) (a1 : ak + wid k ≤ 4294967296) : ∀ q, ffB s best ak k v = some q → rBi q < ((k + 1 : Nat) : Int) := fun q hq => by
  cases s with
  | false => have := hb q hq; omega
  | true =>
    injection hq with hq
    obtain ⟨_, _, g2, _⟩ := InP.own N.hk a0 al a1 N.v0 N.v1
    rw [← hq, g2]
    omega
/-- Where the way ends. -/
theorem ff_fin (P : Place w0 F0 g m pre post w o k ak b F c) (N : Nd w o k ak b F c p1 p2 F1 F2 c1 c2 s v) {C : Rws} (hC : C = pre ++ (c ++ post)) (hg : ∀ r ∈ C, RRow r) (hp : pre.foldl (fiS x) none = best) (hb : ∀ q, best = some q → rBi q < k) (x0 : ak ≤ x) (x1 : x < ak + wid k)
    (he : k = 32 ∨ (k < 32 ∧ (bif decide (ak + wid (k + 1) ≤ x) then p2 else p1) = nilp)) : fiO x C = ffB s best ak k v := by
  unfold fiO
  rw [hC, N.hc, List.foldl_append, List.foldl_append, List.foldl_append, List.foldl_append, hp, ff_own N P.a0 P.al P.a1 x0 x1 hb]
  have hgp : ∀ r ∈ post, RRow r := fun r hr => hg r (by rw [hC]; exact List.mem_append_right _ (List.mem_append_right _ hr))
  rw [ff_post P hgp x1]
  rcases he with e | ⟨hk, hz⟩
  · rw [N.k1.deep (by omega), N.k2.deep (by omega)]
    rfl
  · have nil_c : ∀ {kk : Nat} {aa : Int} {p : Value} {G : List Nat} {cc : Rws}, Sub w none kk aa p G cc → p = nilp → cc = [] := fun h e => by
      rcases h.shape with ⟨_, _, q⟩ | ⟨g', q⟩
      · exact q
      · rw [q] at e; cases e
    by_cases hd : ak + wid (k + 1) ≤ x
    · rw [decide_eq_true hd] at hz
      rw [ff_c1 N P.a0 P.al P.a1 hk hd, nil_c N.k2 hz]
      rfl
    · rw [decide_eq_false hd] at hz
      rw [nil_c N.k1 hz]
      exact ff_c2 N P.a0 P.al P.a1 hk (by omega) _
end
/-- What the letters stand for. -/
structure FfE (x : Int) (best : Option (List Value)) (ρ : Env) : Prop where
  good : ρ.good
  i20 : ρ.i 20 = x
  i23 : ρ.i 23 = fiV best
  b23 : ρ.b 23 = best.isSome
  i24 : ρ.i 24 = fiA best
  i25 : ρ.i 25 = fiN best
theorem fi_bd (b : Option (List Value)) : (-9223372036854775808 ≤ fiV b ∧ fiV b ≤ 9223372036854775807) ∧ (0 ≤ fiA b ∧ fiA b ≤ 4294967295) ∧ (-9223372036854775808 ≤ fiN b ∧ fiN b ≤ 9223372036854775807) := by
  cases b with
  | none => exact ⟨⟨by decide, by decide⟩, ⟨by decide, by decide⟩, ⟨by decide, by decide⟩⟩
  | some r => exact ⟨rVi_bd r, rAd_bd r, rBi_bd r⟩
theorem FfE.bs {x : Int} {best : Option (List Value)} {ρ : Env} (E : FfE x best ρ) (a0 : 0 ≤ x) (a1 : x ≤ 4294967295) (h0 : 0 ≤ ρ.i 22) (h1 : ρ.i 22 ≤ 32) : bdsP ρ ffBs := by
  obtain ⟨q1, q2, q3⟩ := fi_bd best
  refine ⟨⟨h0, h1⟩, ?_, ?_, ?_, ?_, trivial⟩
  · show 0 ≤ ρ.i 20 ∧ ρ.i 20 ≤ 4294967295; rw [E.i20]; exact ⟨a0, a1⟩
  · show _ ≤ ρ.i 23 ∧ ρ.i 23 ≤ _; rw [E.i23]; exact q1
  · show _ ≤ ρ.i 24 ∧ ρ.i 24 ≤ _; rw [E.i24]; exact q2
  · show _ ≤ ρ.i 25 ∧ ρ.i 25 ≤ _; rw [E.i25]; exact q3
def FfPost (w : World) (C : Rws) (x : Int) (v : Value) (w' : World) : Prop := v = .tuple #[.int .i64 (fiV (fiO x C)), pfV (fiA (fiO x C)) (fiN (fiO x C)), .bool (fiO x C).isSome] ∧ Below w.heap.size w w'
def FfJ (w : World) (g : Nat) (m : Int) (F : List Nat) (C : Rws) (x : Int) (j : Env × Bool) (ac : Act) (w' : World) : Prop := match j with
  | (ρ, false) => ∃ k pre post o ak b F' c' best β, Place w F g m pre post w o k ak b F' c' ∧ C = pre ++ (c' ++ post) ∧ pre.foldl (fiS x) none = best ∧ (∀ q, best = some q → rBi q < ((k : Nat) : Int)) ∧ FfE x best ρ ∧ ρ.i 22 = ((k : Nat) : Int) ∧ ak ≤ x ∧ x < ak + wid k ∧ Md ρ No w (gN g) 4 (ffT Try.prog Try.f59 false) β ac w' ∧ β 4 = b
  | (ρ, true) => FfE x (fiO x C) ρ ∧ (0 ≤ ρ.i 22 ∧ ρ.i 22 ≤ 32) ∧ ∃ β, Md ρ No w (gN g) 4 (ffT Try.prog Try.f59 true) β ac w'
def ffMu (j : Env × Bool) : Nat := match j with
  | (ρ, false) => (33 - ρ.i 22).toNat
  | (_, true) => 0
section
variable {w : World} {g : Nat} {m : Int} {F : List Nat} {C : Rws} {x : Int}
set_option maxRecDepth 100000 in
theorem ff_exit {ρ : Env} (E : FfE x (fiO x C) ρ) {S : Nat → Prop} {w0 : World} {β0 β : Bn} {n0 : Nat} {ac : Act} {w' : World} {s : Sy.St} {k : Nat} {l : List As} (hm : (matchS 4 (ffX Try.prog Try.f59) s).map (fun l => (noU l, rnL l 4)) = some (l, k)) {ρ0 : Env} (M : Md ρ0 No w β0 4 s β ac w') (hE : ∀ u, FfE x (fiO x C) { ρ0.sub β l with u := u }) :
    ctx Try.prog ffP (bodyOf Try.f59) (bodyPost Try.prog Try.f59 (RetP (FfPost w C x))) (Ex.exit 0).to ac w' := by
  have hbx : ∀ u, (ffX Try.prog Try.f59).cx.ok { ρ0.sub β l with u := u } := fun u => by
    rw [ff_xcx]
    obtain ⟨q1, q2, q3⟩ := fi_bd (fiO x C)
    have E := hE u
    refine cxP ⟨?_, ?_, ?_, trivial⟩ trivial
    · show _ ≤ ({ ρ0.sub β l with u := u } : Env).i 23 ∧ ({ ρ0.sub β l with u := u } : Env).i 23 ≤ _
      rw [E.i23]; exact q1
    · show _ ≤ ({ ρ0.sub β l with u := u } : Env).i 24 ∧ ({ ρ0.sub β l with u := u } : Env).i 24 ≤ _
      rw [E.i24]; exact q2
    · show _ ≤ ({ ρ0.sub β l with u := u } : Env).i 25 ∧ ({ ρ0.sub β l with u := u } : Env).i 25 ≤ _
      rw [E.i25]; exact q3
  obtain ⟨u, β1, M1, _⟩ := Sy.Md.enterL M hm hbx
  have E1 := hE u
  refine aft_fin (B := ⟨_, No, w, β0, 4⟩) (sp := []) (lim := 10) (fuel := 400) E1.good (fun q hq => by cases hq) rfl (.exit 0) ff_end ⟨?_, trivial⟩ M1
  intro _ β2 w2 hH
  refine ⟨?_, below_no hH.only⟩
  show Value.tuple #[.int .i64 (({ ρ0.sub β l with u := u } : Env).i 23), .agg #[.int .u32 (({ ρ0.sub β l with u := u } : Env).i 24), .int .i64 (({ ρ0.sub β l with u := u } : Env).i 25)], .bool (({ ρ0.sub β l with u := u } : Env).b 23)] = _
  rw [E1.i23, E1.i24, E1.i25, E1.b23]
  rfl
theorem dv_al {ak : Int} {k : Nat} (hk : k ≤ 32) (al : wid k ∣ ak) (x0 : ak ≤ x) (x1 : x < ak + wid k) : x / 2 ^ (32 - (k : Int)).toNat * 2 ^ (32 - (k : Int)).toNat = ak := by
  have e : (2 : Int) ^ (32 - (k : Int)).toNat = wid k := by
    unfold wid
    congr 1
    omega
  rw [e]
  have hw := wid_pos k
  obtain ⟨q, rfl⟩ := al
  generalize wid k = W at *
  obtain ⟨r, hr⟩ : ∃ r, x = r + W * q := ⟨x - W * q, by omega⟩
  subst hr
  rw [Int.add_mul_ediv_left _ _ (by omega), Int.ediv_eq_zero_of_lt (by omega) (by omega), Int.zero_add, Int.mul_comm]
set_option maxRecDepth 100000 in
set_option maxHeartbeats 2000000 in
theorem ff_round (hg : ∀ r ∈ C, RRow r) (a0 : 0 ≤ x) (a1 : x ≤ 4294967295) (m0 : 0 ≤ m) (m1 : m ≤ 64) (j : Env × Bool) {ac : Act} {w' : World} (hJ : FfJ w g m F C x j ac w') :
    (ffLo Try.f59).wp Try.prog (Exit.then (fun a' w' => ∃ j' : Env × Bool, ffMu j' < ffMu j ∧ FfJ w g m F C x j' a' w') (ctx Try.prog ffP (bodyOf Try.f59) (bodyPost Try.prog Try.f59 (RetP (FfPost w C x))))) ac w' := by
  obtain ⟨ρ, z⟩ := j
  cases z with
  | true =>
    obtain ⟨E, ⟨h0, h1⟩, β, M⟩ := hJ
    refine part_wp (B := ⟨ρ, No, w, β, 10⟩) (sp := []) (lim := 10) (fuel := 400) E.good (fun q hq => by cases hq) rfl (r := ffRn Try.prog Try.f59) rfl ff_runN ⟨?_, trivial⟩ ⟨M.act, M.hp, M.ne, M.may, M.cx, M.only, fun _ _ => rfl⟩
    intro hpc β2 a2 w2 M3
    have M4 : Md ρ No w β 4 (lfAt (ffRn Try.prog Try.f59) 0) β2 a2 w2 := ⟨M3.act, M3.hp, M3.ne, M3.may, M3.cx, M3.only, fun l hl => M3.old l (show l < 10 by omega)⟩
    exact ff_exit E (S := No) (w0 := w) (β0 := β) (n0 := 4) ff_mN M4 fun u => ⟨E.good, E.i20, E.i23, E.b23, E.i24, E.i25⟩
  | false =>
    obtain ⟨k, pre, post, o, ak, b, F', c', best, β, P, hC, hpre, hb, E, i22, x0, x1, M, e4⟩ := hJ
    obtain ⟨p1, p2, F1, F2, c1, c2, s, v, N⟩ := P.sub.opn rfl
    have hkk := N.hk
    have hF'lt := P.sub.lt
    have N' := N.keep (w' := w') fun i hi => M.only.block i (hF'lt i hi) fun q => q
    have hbF : b ∈ F' := by rw [N.hF]; exact List.mem_cons_self ..
    have hbl := hF'lt b hbF
    have hlow := ff_low
    simp only [Bool.and_eq_true] at hlow
    obtain ⟨hlow, ⟨f6, f7⟩, f8, f9⟩ := hlow
    obtain ⟨hp1, hcx1⟩ := ff_hp false
    obtain ⟨β1, M1, q6, q8, ql⟩ := nd_in M N' e4 (fun m' e => by
      rcases P.root with ⟨e', _⟩ | ⟨e', _⟩
      · rw [e'] at e; injection e with e; omega
      · rw [e'] at e; cases e) (by decide) hlow (by rw [f6, f7, f8, f9]; rfl) false (fun y hy hry hfy => by
        have hy' := hy
        rw [hp1] at hy'
        have e := List.mem_singleton.1 hy'
        subst e
        have := fp_one rfl hfy
        have h2 := (M.may0 _ hy rfl (.inl rfl)).resolve_left fun q => q
        omega) (fun h => by cases h)
    have E1n := NdE.hi ρ 32 s v o
    obtain ⟨ρ1, hρ1⟩ : ∃ ρ1, ρ.hi 32 (ndL s v o) = ρ1 := ⟨_, rfl⟩
    rw [hρ1] at M1 E1n
    have E1 : FfE x best ρ1 := by rw [← hρ1]; exact ⟨E.good, E.i20, E.i23, E.b23, E.i24, E.i25⟩
    have j22 : ρ1.i 22 = (k : Int) := by rw [← hρ1]; exact i22
    have hmu : ffMu (ρ, false) = (33 - ρ1.i 22).toNat := by show (33 - ρ.i 22).toNat = _; rw [i22, j22]
    rw [hmu]
    have M2 : ∀ e : Bool, (e = true → k = 32) → (e = false → k < 32) → Md ρ1 No w β1 10 (ffN Try.prog Try.f59 o.isSome (kidZ p1) (kidZ p2) s e) β1 ac w' := fun e h1 h2 => ⟨M1.act, M1.hp, M1.ne, M1.may, by
      refine cxP ⟨?_, ?_, ?_, E1.bs a0 a1 (by omega) (by omega)⟩ ⟨?_, trivial⟩
      · cases e with
        | true => show 32 ≤ ρ1.i 22 ∧ ρ1.i 22 ≤ 32; have := h1 rfl; omega
        | false => show 0 ≤ ρ1.i 22 ∧ ρ1.i 22 ≤ 31; have := h2 rfl; omega
      · show _ ≤ ρ1.i 33 ∧ ρ1.i 33 ≤ _
        rw [show ρ1.i 33 = v from E1n.v]
        exact ⟨N.v0, N.v1⟩
      · show (0 : Int) ≤ ρ1.i 34 ∧ ρ1.i 34 ≤ 64
        rw [show ρ1.i 34 = o.getD 0 from E1n.m]
        rcases P.root with ⟨e', _⟩ | ⟨e', _⟩
        · rw [e']; exact ⟨m0, m1⟩
        · rw [e']; exact ⟨by show (0 : Int) ≤ 0; omega, by show (0 : Int) ≤ 64; omega⟩
      · have : ρ1.b 32 = s := E1n.st
        cases s with
        | true => exact this
        | false => show (!ρ1.b 32) = true; rw [this]; rfl, M1.only, fun _ _ => rfl⟩
    have old : ∀ l, l < 4 → β1 l = gN g l := fun l hl => (ql l (by omega)).trans (M.old l hl)
    have i33 : ρ1.i 33 = v := E1n.v
    clear M M1 hρ1 E hmu
    obtain ⟨d, hd⟩ : ∃ d, decide (ak + wid (k + 1) ≤ x) = d := ⟨_, rfl⟩
    have hsp : ∀ q ∈ [btSp d 22], q.Ok Try.prog ρ1 := fun q hq => by
      rw [List.mem_singleton.1 hq]
      refine btSp_ok (by rw [E1.i20]; exact a0) (by rw [E1.i20]; exact a1) (by omega) fun h => ?_
      rw [j22] at h
      rw [E1.i20, j22, bit_of (by omega) P.al x0 x1 P.a0, hd]
    obtain ⟨g0, g1, g2, g3⟩ := InP.own hkk P.a0 P.al P.a1 N.v0 N.v1
    have hdv : ρ1.i 20 / 2 ^ (32 - ρ1.i 22).toNat * 2 ^ (32 - ρ1.i 22).toNat = ak := by
      rw [E1.i20, j22]
      exact dv_al hkk P.al x0 x1
    have hak : ak % 4294967296 = ak := by
      have := P.a0
      have := P.a1
      have := wid_pos k
      omega
    -- the best so far
    have hE' : ∀ (e : Bool) (β2 : Bn) (u : Nat → Value), FfE x (ffB s best ak k v) { ρ1.sub β2 (ffAs s e) with u := u } := fun e β2 u => by
      cases s with
      | false => cases e <;> exact ⟨E1.good, E1.i20, E1.i23, E1.b23, E1.i24, E1.i25⟩
      | true =>
        cases e with
        | false =>
          refine ⟨E1.good, E1.i20, ?_, rfl, ?_, ?_⟩
          · show ρ1.i 33 = rVi (mkR ak k v); rw [g3, i33]
          · show (ρ1.i 20 / 2 ^ (32 - ρ1.i 22).toNat * 2 ^ (32 - ρ1.i 22).toNat) % 4294967296 = rAd (mkR ak k v); rw [g1, hdv, hak]
          · show ρ1.i 22 = rBi (mkR ak k v); rw [g2, j22]
        | true =>
          refine ⟨E1.good, E1.i20, ?_, rfl, ?_, ?_⟩
          · show ρ1.i 33 = rVi (mkR ak k v); rw [g3, i33]
          · show (ρ1.i 20 / 2 ^ (32 - ρ1.i 22).toNat * 2 ^ (32 - ρ1.i 22).toNat) = rAd (mkR ak k v); rw [g1, hdv]
          · show ρ1.i 22 = rBi (mkR ak k v); rw [g2, j22]
    by_cases hk32 : k = 32
    · -- the deepest place
      have hfin := ff_fin P N hC hg hpre hb x0 x1 (.inl hk32)
      have hsp' : ∀ q ∈ [btSp true 22], q.Ok Try.prog ρ1 := fun q hq => by
        rw [List.mem_singleton.1 hq]
        exact btSp_ok (by rw [E1.i20]; exact a0) (by rw [E1.i20]; exact a1) (by omega) fun h => by omega
      refine part_wp (B := ⟨ρ1, No, w, β1, 10⟩) (sp := [btSp true 22]) (lim := 10) (fuel := 400) E1.good hsp' rfl (r := ffR1 Try.prog Try.f59 o.isSome true (kidZ p1) (kidZ p2) s true) rfl (ff_run2 _ _ _ _) ⟨?_, trivial⟩ (M2 true (fun _ => hk32) (fun q => by cases q))
      intro hpc β2 a2 w2 M3
      have M4 : Md ρ1 No w β1 4 (lfAt (ffR1 Try.prog Try.f59 o.isSome true (kidZ p1) (kidZ p2) s true) 0) β2 a2 w2 := ⟨M3.act, M3.hp, M3.ne, M3.may, M3.cx, M3.only, fun l hl => M3.old l (show l < 10 by omega)⟩
      exact ff_exit (ρ := { ρ1.sub β2 (ffAs s true) with u := fun _ => .bool false }) (by rw [hfin]; exact hE' true β2 _) (S := No) (w0 := w) (β0 := β1) (n0 := 4) (ff_m2 _ _ _ _) M4 fun u => by rw [hfin]; exact hE' true β2 u
    · have hk : k < 32 := by omega
      have hh := wid_half hk
      refine part_wp (B := ⟨ρ1, No, w, β1, 10⟩) (sp := [btSp d 22]) (lim := 10) (fuel := 400) E1.good hsp rfl (r := ffR1 Try.prog Try.f59 o.isSome d (kidZ p1) (kidZ p2) s false) rfl (ff_run1 _ _ _ _ _) ⟨?_, trivial⟩ (M2 false (fun q => by cases q) (fun _ => hk))
      intro hpc β2 a2 w2 M3
      have M4 : Md ρ1 No w (gN g) 4 (lfAt (ffR1 Try.prog Try.f59 o.isSome d (kidZ p1) (kidZ p2) s false) 0) β2 a2 w2 := ⟨M3.act, M3.hp, M3.ne, M3.may, M3.cx, M3.only, fun l hl => (M3.old l (show l < 10 by omega)).trans (old l hl)⟩
      have n22 : ∀ u, ({ ρ1.sub β2 (ffAs s false) with u := u } : Env).i 22 = ((k + 1 : Nat) : Int) := fun u => by
        cases s <;> (show ρ1.i 22 + 1 = _; rw [j22]; rfl)
      obtain ⟨u, β3, M5, e3⟩ := Sy.Md.enterL M4 (ff_m1 _ _ _ _ _) (fun u => by
        rw [(ff_hp _).2]
        exact cxP ((hE' false β2 u).bs a0 a1 (by rw [n22]; omega) (by rw [n22]; omega)) trivial)
      have k6 : β2 6 = kidA p1 := (M3.old 6 (show 6 < 10 by decide)).trans q6
      have k8 : β2 8 = kidA p2 := (M3.old 8 (show 8 < 10 by decide)).trans q8
      have hE2 := hE' false β2 u
      have n22 := n22 u
      generalize ({ ρ1.sub β2 (ffAs s false) with u := u } : Env) = ρ2 at M5 hE2 n22
      have hlt := ffB_lt hb N P.a0 P.al P.a1
      have hzz : (bif d then kidZ p2 else kidZ p1) = kidZ (bif d then p2 else p1) := by cases d <;> rfl
      cases hz : (bif d then kidZ p2 else kidZ p1) with
      | true =>
        rw [hz] at M5
        refine ⟨(ρ2, true), ?_, ?_, ⟨by omega, by omega⟩, β3, M5⟩
        · show 0 < (33 - ρ1.i 22).toNat; omega
        · rw [ff_fin P N hC hg hpre hb x0 x1 (.inr ⟨hk, by
            rw [hd]
            have hk2 : ∀ p : Value, (p = nilp ∨ ∃ g1, p = ptv g1) → kidZ p = true → p = nilp := fun p hp hz => by
              rcases hp with e | ⟨g1, e⟩
              · exact e
              · rw [e] at hz; cases hz
            cases d with
            | false => exact hk2 p1 (N.k1.shape.imp (fun h => h.1) fun h => h) hz
            | true => exact hk2 p2 (N.k2.shape.imp (fun h => h.1) fun h => h) hz⟩)]
          exact hE2
      | false =>
        rw [hz] at M5 e3
        refine ⟨(ρ2, false), ?_, ?_⟩
        · show (33 - ρ2.i 22).toNat < (33 - ρ1.i 22).toNat; rw [n22, j22]; omega
        · cases d with
          | false =>
            have hd' := of_decide_eq_false hd
            change kidZ p1 = false at hz
            rcases N.k1.shape with ⟨e, _⟩ | ⟨g1, e⟩
            · rw [e] at hz; cases hz
            · refine ⟨k + 1, _, _, none, ak, g1, F1, c1, ffB s best ak k v, β3, P.kid0 N e, ?_, ?_, hlt, hE2, n22, x0, by omega, M5, ?_⟩
              · rw [hC, N.hc]; simp only [List.append_assoc]
              · rw [List.foldl_append, hpre, ff_own N P.a0 P.al P.a1 x0 x1 hb]
              · rw [e3]
                show β2 6 = _
                rw [k6, e]; rfl
          | true =>
            have hd' := of_decide_eq_true hd
            change kidZ p2 = false at hz
            rcases N.k2.shape with ⟨e, _⟩ | ⟨g1, e⟩
            · rw [e] at hz; cases hz
            · refine ⟨k + 1, _, _, none, ak + wid (k + 1), g1, F2, c2, ffB s best ak k v, β3, P.kid1 N e, ?_, ?_, hlt, hE2, n22, hd', by omega, M5, ?_⟩
              · rw [hC, N.hc]; simp only [List.append_assoc]
              · rw [List.foldl_append, List.foldl_append, hpre, ff_own N P.a0 P.al P.a1 x0 x1 hb, ff_c1 N P.a0 P.al P.a1 hk hd']
              · rw [e3]
                show β2 8 = _
                rw [k8, e]; rfl
set_option maxRecDepth 100000 in
/-- Find. -/
theorem find_calls (h : Sub w (some (C.length : Int)) 0 0 (ptv g) F C) (l64 : C.length ≤ 64) (a0 : 0 ≤ x) (a1 : x ≤ 4294967295) : Calls Try.prog 59 #[ptv g, .int .u32 x] w (RetP (FfPost w C x)) := by
  let ρ0 : Env := { mkEnv0 [] [] [] [] with i := fun j => if j = 20 then x else 0, f := rtF }
  have hM0 : Md ρ0 No w (gN g) 4 ffSt (gN g) ⟨#[], []⟩ w := Sy.Md.init trivial trivial trivial (cxP ⟨⟨a0, a1⟩, trivial⟩ trivial) rfl
  refine calls_pre (B := ⟨ρ0, No, w, gN g, 4⟩) (sp := []) (p := ffP) (xs := ffA) (s := ffSt) (r := ffR0 Try.prog Try.f59) (fun i => rfl) (fun q hq => by cases hq) rfl Try.func59 rfl rfl ff_run0 hM0 ⟨?_, trivial⟩ rfl
  intro hpc β ac w1 M
  show (Sy.sub ffP (bodyOf Try.f59)).wp Try.prog (ctx Try.prog ffP (bodyOf Try.f59) _) ac w1
  rw [ff_loop]
  have E0 : ∀ u, FfE x none { ρ0.sub β [.i 23 (.il 0), .b 23 (.bl false), .i 22 (.il 0), .i 24 (.il 0), .i 25 (.il 0)] with u := u } := fun u => ⟨fun i => rfl, rfl, rfl, rfl, rfl, rfl⟩
  obtain ⟨u, β1, M1, e1⟩ := Sy.Md.enterL M ff_in (fun u => by rw [(ff_hp false).2]; exact cxP ((E0 u).bs a0 a1 (Int.le_refl 0) (show (0 : Int) ≤ 32 by decide)) trivial)
  refine wp_loop_ix (ι := Env × Bool) (FfJ w g (C.length : Int) F C x) ffMu (fun j ac w' hJ => ff_round (fun r hr => (h.rows (Int.le_refl _) ⟨0, by simp⟩ (by rw [wid_0]; decide) r hr).ok) a0 a1 (by omega) (by omega) j hJ) (_, false) ⟨0, [], [], some (C.length : Int), 0, g, F, C, none, β1, Place.start h, by rw [List.nil_append, List.append_nil], rfl, fun q hq => (by cases hq), E0 u, rfl, a0, by rw [wid_0]; omega, M1, ?_⟩
  rw [e1]
  exact M.old 0 (show 0 < 4 by decide)
end
end Go.Proofs.Ytnjpoidpfcfbeaa
