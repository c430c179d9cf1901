/- Fragments: both sides' calls in letters. -/
import Derived.Test.YtnmfmjlpfhdgeaaFragJ
import Derived.Test.YtnmfmjlpfhdgeaaSyZ
import Derived.Test.YtnmfmjlpfhdgeaaSliceSz
namespace Go.Proofs.Ytnmfmjlpfhdgeaa
open Go.RowKit Sy
set_option linter.unusedVariables false
set_option linter.unusedSimpArgs false

/-! Things of many blocks. -/
def ownBr (l fl j : Nat) (ty : TypeId) (rw : Bool) (t : Tm) : Bk := ⟨l, ty, [.ptr fl 0], rw, none, .own j t⟩
abbrev ownB (l fl j : Nat) (ty : TypeId) (t : Tm) : Bk := ownBr l fl j ty true t
theorem bits_P (F : List Nat) : (fun i => (bitsOf F).testBit i = true) = fun i => i ∈ F := funext fun i => propext (bitsOf_test i F)
theorem own_chg {ρ : Env} {β : Bn} {w w' : World} {s : Sy.St} {l fl n j : Nat} {ty : TypeId} {t t' : Tm} (hl : l + 1 < s.nx) (hn : s.nx ≤ n) (hd : ownB l fl j ty t ∈ s.hp) {F F' : List Nat} (hF : ∀ i, (β fl).testBit i = true ↔ i ∈ F)
    (hP : (ρ.o j).P w' (β l) (fun i => i ∈ F') (den ρ t').c) (hO : Only (fun i => i ∈ F) w w') (hf : ∀ i ∈ F', i ∈ F ∨ w.heap.size ≤ i) :
    Chg ρ β (upd β n (bitsOf F')) w w' s [] [] [] (some (ownB l n j ty t')) := by
  have e0 : upd β n (bitsOf F') l = β l := upd_old (by omega)
  have e1 : upd β n (bitsOf F') n = bitsOf F' := upd_new ..
  have inF : ∀ i, i ∈ F → fp β (ownB l fl j ty t) i := fun i hi => .inr ⟨rfl, (hF i).2 hi⟩
  refine ⟨hO.mono fun i _ hi => .inr (.inr ⟨_, rfl, _, hd, rfl, ⟨rfl, rfl⟩, inF i hi⟩), fun k hk => upd_old (by omega), fun _ h => (by cases h), fun _ h => (by cases h), fun b hb => ?_, fun _ h => (by cases h), fun _ h => (by cases h), fun _ h => (by cases h)⟩
  injection hb with hb
  subst hb
  have hroot : β l ∈ F' := (ρ.o j).root hP
  refine ⟨?_, fun i hi => ?_⟩
  · show (ρ.o j).P w' (upd β n (bitsOf F') l) (fun i => (upd β n (bitsOf F') n).testBit i = true) (den ρ t').c
    rw [e0, e1, bits_P]
    exact hP
  · have hi' : i ∈ F' := by
      rcases hi with hi | ⟨_, hi⟩
      · change i = upd β n (bitsOf F') l at hi
        rw [hi, e0]; exact hroot
      · change (upd β n (bitsOf F') n).testBit i = true at hi
        rw [e1, bitsOf_test] at hi
        exact hi
    exact (hf i hi').imp (fun q => ⟨_, hd, rfl, ⟨rfl, rfl⟩, inF i q⟩) (fun q => q)
def ownGr (s : Sy.St) (l : Nat) : Option (TypeId × Nat × Nat × Bool × Tm) := match find l s.hp with
  | some ⟨_, ty, [.ptr fl 0], rw, none, .own j t⟩ => if Nat.blt (l + 1) s.nx then some (ty, fl, j, rw, t) else none
  | _ => none
theorem ownGr_ok {s : Sy.St} {l : Nat} {ty : TypeId} {fl j : Nat} {rw : Bool} {t : Tm} (h : ownGr s l = some (ty, fl, j, rw, t)) : ownBr l fl j ty rw t ∈ s.hp ∧ l + 1 < s.nx := by
  unfold ownGr at h
  split at h
  · rename_i l' ty' fl' rw' j' t' hf
    split at h
    · rename_i q
      injection h with h
      injection h with h1 h
      injection h with h2 h
      injection h with h3 h
      injection h with h4 h5
      subst h1 h2 h3 h4 h5
      have := find_mem hf
      have e : l' = l := this.2
      subst e
      exact ⟨this.1, blt_lt q⟩
    · cases h
  · cases h
theorem no_chg {ρ : Env} {β : Bn} {w w' : World} {s : Sy.St} (hb : Below w.heap.size w w') : Chg ρ β β w w' s [] [] [] none := ⟨Only.of_below hb _, fun _ _ => rfl, fun _ h => (by cases h), fun _ h => (by cases h), fun _ h => (by cases h), fun _ h => (by cases h), fun _ h => (by cases h), fun _ h => (by cases h)⟩
/-- The program's table; the document's. -/
def frT : Thing where
  P := fun w g Fp c => ∃ m bs es, FrT w g m bs es ∧ c = encs es ∧ ∀ i, Fp i ↔ i ∈ frF g m bs
  keep := fun ⟨m, bs, es, h, hc, hF⟩ hk => ⟨m, bs, es, h.keep fun i hi => hk i ((hF i).2 hi), hc, hF⟩
  lt := fun ⟨m, bs, es, h, hc, hF⟩ i hi => h.lt ((hF i).1 hi)
  root := fun ⟨m, bs, es, h, hc, hF⟩ => (hF _).2 (List.mem_cons_self ..)
def rfT : Thing where
  P := fun w u Fp c => ∃ a cap ls es, RfM w u a cap ls es ∧ FOk es ∧ c = encs es ∧ ∀ i, Fp i ↔ i ∈ rfF u a cap ls
  keep := fun ⟨a, cap, ls, es, h, ho, hc, hF⟩ hk => ⟨a, cap, ls, es, h.keep fun i hi => hk i ((hF i).2 hi), ho, hc, hF⟩
  lt := fun ⟨a, cap, ls, es, h, ho, hc, hF⟩ i hi => h.lt ((hF i).1 hi)
  root := fun ⟨a, cap, ls, es, h, ho, hc, hF⟩ => (hF _).2 (rfF_u ..)
/-! What calls give, over letters. -/
def ansR (a : Ans) : List Value := a.k ++ [.bool a.b, .int .i64 a.e]
def mxL (es : List Ent) : Int := es.foldl (fun m e => max m (e.2.length : Int)) 0
def lwF : Nat → Dn → Dn → Dn → Dn := fun n t x _ =>
  if n = 21 then dC (encs (inA' (decs t.c) (x.c.headD [])).es) else
  if n = 22 then dC [ansR (inA' (decs t.c) (x.c.headD []))] else
  if n = 23 then dC (encs (tkL (decs t.c) x.i)) else
  if n = 24 then dI (tkE x.i) else dI (mxL (decs t.c))
theorem mxL_fold : ∀ (es : List Ent) (m : Int), m ≤ es.foldl (fun m e => max m (e.2.length : Int)) m ∧ ∀ e ∈ es, (e.2.length : Int) ≤ es.foldl (fun m e => max m (e.2.length : Int)) m
  | [], m => ⟨Int.le_refl _, fun _ h => by cases h⟩
  | x :: es, m => by
    obtain ⟨h1, h2⟩ := mxL_fold es (max m (x.2.length : Int))
    refine ⟨by show m ≤ es.foldl _ (max m _); omega, fun e he => ?_⟩
    show _ ≤ es.foldl (fun m (e : Ent) => max m (e.2.length : Int)) (max m _)
    rcases List.mem_cons.1 he with rfl | he
    · omega
    · exact h2 e he
theorem mxL_ge {es : List Ent} {e : Ent} (h : e ∈ es) : (e.2.length : Int) ≤ mxL es := (mxL_fold es 0).2 e h
theorem mxL_le {es : List Ent} {n : Int} (h0 : 0 ≤ n) (h : ∀ e ∈ es, (e.2.length : Int) ≤ n) : mxL es ≤ n := by
  have key : ∀ (es : List Ent) (m : Int), m ≤ n → (∀ e ∈ es, (e.2.length : Int) ≤ n) → es.foldl (fun m e => max m (e.2.length : Int)) m ≤ n := by
    intro es
    induction es with
    | nil => intro m hm _; exact hm
    | cons x es ih =>
      intro m hm h
      exact ih _ (by have := h x (List.mem_cons_self ..); show max m (x.2.length : Int) ≤ n; omega) fun e he => h e (List.mem_cons_of_mem _ he)
  exact key es 0 h0 h
def kR : Tm := .tb (.cons (.int .u32)) (.iv 107) (.tb (.cons (.int .u32)) (.iv 108) (.tb (.cons (.int .i64)) (.iv 109) (.tb (.cons (.int .i64)) (.iv 110) (.tb (.cons (.int .i64)) (.iv 111) (.tb (.cons .bool) (.bv 112) (.tb (.cons .bool) (.bv 113) (.tb (.cons (.int .i64)) (.iv 114) (.tb (.cons .str) (.sv 115) (.tb .row (.il 0) (.il 0) (.il 0)) (.il 0)) (.il 0)) (.il 0)) (.il 0)) (.il 0)) (.il 0)) (.il 0)) (.il 0)) (.il 0)
def anT (t : Tm) : Tm := .ap 22 t kR (.il 0)
def anV (t : Tm) : SV := .tup [.agg (rwC (anT t) (.il 0)), .c (.bool (.tb (.get .bool 9) (anT t) (.il 0) (.il 0))), .c (.int .i64 (.tb (.get (.int .i64) 10) (anT t) (.il 0) (.il 0)))]
theorem rw_app {q t : List Value} (h : kAll pkLv q) : rwV (q ++ t) = q := by
  obtain ⟨v0, r0, e0, h0, t0⟩ := kAll_cons h
  obtain ⟨v1, r1, e1, h1, t1⟩ := kAll_cons t0
  obtain ⟨v2, r2, e2, h2, t2⟩ := kAll_cons t1
  obtain ⟨v3, r3, e3, h3, t3⟩ := kAll_cons t2
  obtain ⟨v4, r4, e4, h4, t4⟩ := kAll_cons t3
  obtain ⟨v5, r5, e5, h5, t5⟩ := kAll_cons t4
  obtain ⟨v6, r6, e6, h6, t6⟩ := kAll_cons t5
  obtain ⟨v7, r7, e7, h7, t7⟩ := kAll_cons t6
  obtain ⟨v8, r8, e8, h8, t8⟩ := kAll_cons t7
  have e9 := kAll_nil t8
  subst e9 e8 e7 e6 e5 e4 e3 e2 e1 e0
  show [Value.int .u32 (getV (.int .u32) v0).i, .int .u32 (getV (.int .u32) v1).i, .int .i64 (getV (.int .i64) v2).i, .int .i64 (getV (.int .i64) v3).i, .int .i64 (getV (.int .i64) v4).i, .bool (getV .bool v5).b, .bool (getV .bool v6).b, .int .i64 (getV (.int .i64) v7).i, .string (getV .str v8).s] = _
  rw [getV_int h0, getV_int h1, getV_int h2, getV_int h3, getV_int h4, getV_bool h5, getV_bool h6, getV_int h7, getV_str h8]
theorem noPk_ok : kAll pkLv noPk := fsC_ok (l := []) GL.nil
theorem whP_ok {l : Rws} (h : GL l) : kAll pkLv (whP l) := by
  have := fsC_ok h
  obtain ⟨v0, r0, e0, h0, t0⟩ := kAll_cons this
  obtain ⟨v1, r1, e1, h1, t1⟩ := kAll_cons t0
  obtain ⟨v2, r2, e2, h2, t2⟩ := kAll_cons t1
  obtain ⟨v3, r3, e3, h3, t3⟩ := kAll_cons t2
  obtain ⟨v4, r4, e4, h4, t4⟩ := kAll_cons t3
  obtain ⟨v5, r5, e5, h5, t5⟩ := kAll_cons t4
  subst e5 e4 e3 e2 e1
  unfold whP
  rw [e0]
  refine ⟨h0, h1, h2, h3, h4, h5, ⟨false, rfl⟩, ⟨0, rfl, by decide⟩, ⟨_, rfl, ?_⟩, trivial⟩
  show (boS l).size ≤ 9223372036854775807
  have hb := en_bd h.row
  have : (boS l).size = (enOf l).toNat := boN_size l (by omega)
  omega
theorem ans_ok {es : List Ent} (h : FOk es) {p : List Value} (hk : kAll pkLv p) : kAll pkLv (inA' es p).k ∧ 0 ≤ (inA' es p).e ∧ (inA' es p).e ≤ 9 := by
  have hch : 0 ≤ chkP p ∧ chkP p ≤ 2 := by
    unfold chkP
    split
    · omega
    · split <;> omega
  unfold inA'
  split
  · rename_i q
    have hp := isT_ok hk q
    unfold tbA
    cases hx : ixN (nameOf p) es with
    | none =>
      simp only
      split
      · exact ⟨noPk_ok, show (0 : Int) ≤ 9 by decide, show (9 : Int) ≤ 9 by decide⟩
      · exact ⟨noPk_ok, show (0 : Int) ≤ 0 by decide, show (0 : Int) ≤ 9 by decide⟩
    | some i =>
      obtain ⟨hi, hN⟩ := ixN_some hx
      have hE := h.ok _ (List.getElem_mem hi)
      rw [← getD_at hi] at hE
      simp only
      split
      · exact ⟨noPk_ok, show (0 : Int) ≤ 4 by decide, show (4 : Int) ≤ 9 by decide⟩
      · rename_i hf
        split
        · exact ⟨whP_ok (hE.gl.snoc hp.row (by simpa using hf)), show (0 : Int) ≤ 0 by decide, show (0 : Int) ≤ 9 by decide⟩
        · exact ⟨noPk_ok, show (0 : Int) ≤ 0 by decide, show (0 : Int) ≤ 9 by decide⟩
  · refine ⟨?_, ?_, ?_⟩
    · show kAll pkLv (hdK p)
      unfold hdK
      split
      · exact hk
      · exact noPk_ok
    · show 0 ≤ hdE p
      unfold hdE
      split
      · exact hch.1
      · split
        · decide
        · split
          · decide
          · split <;> decide
    · show hdE p ≤ 9
      unfold hdE
      split
      · omega
      · split
        · decide
        · split
          · decide
          · split <;> decide
section
variable {ρ : Env} {p : List Value}
/-- The packet of the step. -/
structure LwK (p : List Value) (ρ : Env) : Prop where
  k : ∀ β, denL ρ β (pkC 107) = p
  ok : kAll pkLv p
theorem LwK.row (K : LwK p ρ) : (den ρ kR).c.headD [] = p := K.k fun _ => 0
theorem anV_den (hf : ρ.f = lwF) (K : LwK p ρ) {t : Tm} {es : List Ent} (h : FOk es) (ht : (den ρ t).c = encs es) (β : Bn) : (anV t).den ρ β = ansV (inA' es p) := by
  have ea : (den ρ (anT t)).c = [ansR (inA' es p)] := by
    show (ρ.f 22 (den ρ t) (den ρ kR) (dI 0)).c = _
    rw [hf]
    show [ansR (inA' (decs (den ρ t).c) ((den ρ kR).c.headD []))] = _
    rw [K.row, ht, decs_encs h]
  obtain ⟨a1, a2, a3⟩ := ans_ok h K.ok
  have el := kAll_len a1
  show Value.tuple #[.agg (rwV ((den ρ (anT t)).c.getD ((0 : Int)).toNat [])).toArray, .bool (gB ((den ρ (anT t)).c.getD ((0 : Int)).toNat []) 9), .int .i64 (gI .i64 ((den ρ (anT t)).c.getD ((0 : Int)).toNat []) 10)] = _
  rw [ea]
  show Value.tuple #[.agg (rwV (ansR (inA' es p))).toArray, .bool (gB (ansR (inA' es p)) 9), .int .i64 (gI .i64 (ansR (inA' es p)) 10)] = _
  generalize inA' es p = A at a1 a2 a3 el ⊢
  have e9 : gB (ansR A) 9 = A.b := by
    unfold gB ansR
    rw [List.getD_eq_getElem?_getD, List.getElem?_append_right (by rw [el]; decide), el]
    rfl
  have e10 : gI .i64 (ansR A) 10 = A.e := by
    refine gI_lit (k := .i64) ?_ (show (-9223372036854775808 : Int) ≤ A.e by omega) (show A.e ≤ (9223372036854775807 : Int) by omega)
    unfold ansR
    rw [List.getD_eq_getElem?_getD, List.getElem?_append_right (by rw [el]; decide), el]
    rfl
  rw [e9, e10]
  unfold ansR
  rw [rw_app a1]
  rfl
theorem f21 (hf : ρ.f = lwF) (K : LwK p ρ) {t : Tm} {es : List Ent} (h : FOk es) (ht : (den ρ t).c = encs es) : (den ρ (.ap 21 t kR (.il 0))).c = encs (inA' es p).es := by
  show (ρ.f 21 (den ρ t) (den ρ kR) (dI 0)).c = _
  rw [hf]
  show encs (inA' (decs (den ρ t).c) ((den ρ kR).c.headD [])).es = _
  rw [K.row, ht, decs_encs h]
theorem f23 (hf : ρ.f = lwF) {t x : Tm} {es : List Ent} (h : FOk es) (ht : (den ρ t).c = encs es) : (den ρ (.ap 23 t x (.il 0))).c = encs (tkL es (den ρ x).i) := by
  show (ρ.f 23 (den ρ t) (den ρ x) (dI 0)).c = _
  rw [hf]
  show encs (tkL (decs (den ρ t).c) (den ρ x).i) = _
  rw [ht, decs_encs h]
theorem f25 (hf : ρ.f = lwF) {t : Tm} {es : List Ent} (h : FOk es) (ht : (den ρ t).c = encs es) : (den ρ (.ap 25 t (.il 0) (.il 0))).i = mxL es := by
  show (ρ.f 25 (den ρ t) (dI 0) (dI 0)).i = _
  rw [hf]
  show mxL (decs (den ρ t).c) = _
  rw [ht, decs_encs h]
end
end Go.Proofs.Ytnmfmjlpfhdgeaa
/- Fragments: Specs of both sides. -/
namespace Go.Proofs.Ytnmfmjlpfhdgeaa
open Go.RowKit Sy
set_option linter.unusedVariables false
set_option linter.unusedSimpArgs false

def inI (c : Cx) (x : Tm) : List Tm := need c (.le (.il (-9223372036854775808)) x) ++ need c (.le x (.il 9223372036854775807))
theorem inI_ok {ρ : Env} {c : Cx} (hc : c.ok ρ) {x : Tm} (h : Sy.Met ρ (inI c x)) : -9223372036854775808 ≤ (den ρ x).i ∧ (den ρ x).i ≤ 9223372036854775807 := by
  have h1 := need_ok hc h.l
  have h2 := need_ok hc h.r
  rw [t_le] at h1 h2
  exact ⟨h1, h2⟩
def nwSel (s : Sy.St) : List SV → Option Did
  | [] => some ⟨[], [], [], [ownB s.nx (s.nx + 1) 0 53 tn], .one (.c (.ptr s.nx 0)), [], none⟩
  | _ => none
def nwSp : Sy.Spec := chgSp 4 nwSel
def tkSel (j : Nat) (s : Sy.St) : List SV → Option Did
  | [.one (.c (.ptr l 0)), .one (.c (.int .i64 n))] => match ownGr s l with
    | some (ty, fl, k, true, t) => if Nat.beq k j then some ⟨inI s.cx n, [], [], [], .one (.c (.int .i64 (.ap 24 (.il 0) n (.il 0)))), [⟨.ap 24 (.il 0) n (.il 0), 0, 1⟩], some (ownB l s.nx j ty (.ap 23 t n (.il 0)))⟩ else none
    | _ => none
  | _ => none
def tkSp : Sy.Spec := chgSp 5 (tkSel 0)
def rtkSp : Sy.Spec := chgSp 7 (tkSel 1)
def inSel (s : Sy.St) : List SV → Option Did
  | [.one (.c (.ptr l 0)), .one (.agg cs)] => match ownGr s l with
    | some (ty, fl, 0, true, t) => if sameCs cs (pkC 107) then some ⟨[], [], [], [], anV t, [], some (ownB l s.nx 0 ty (.ap 21 t kR (.il 0)))⟩ else none
    | _ => none
  | _ => none
def rinSel (s : Sy.St) : List SV → Option Did
  | [.one (.c (.ptr l 0)), .one (.agg cs)] => match ownGr s l with
    | some (ty, fl, 1, true, t) => if sameCs cs (pkC 107) then some ⟨need s.cx (.lt (.ap 25 t (.il 0) (.il 0)) (.il 1099511627776)), [], [], [], anV t, [], some (ownB l s.nx 1 ty (.ap 21 t kR (.il 0)))⟩ else none
    | _ => none
  | _ => none
def inSp : Sy.Spec := chgSp 8 inSel
def rinSp : Sy.Spec := chgSp 9 rinSel
def opSel (s : Sy.St) : List SV → Option Did
  | [.one (.c (.ptr l 0))] => match ownGr s l with
    | some (ty, fl, 0, _, t) => some ⟨[], [], [], [], .one (.c (.int .i64 (tlen t))), [⟨tlen t, 0, 8⟩], none⟩
    | _ => none
  | _ => none
def opSp : Sy.Spec := chgSp 10 opSel
section
variable {ρ : Env} {p : List Value}
theorem tkE_bd (n : Int) : 0 ≤ tkE n ∧ tkE n ≤ 1 := by
  unfold tkE
  split <;> decide
theorem encs_len (es : List Ent) : (encs es).length = es.length := by
  unfold encs
  rw [List.length_map]
theorem nwSp_ok (ho : ρ.o 0 = frT) : nwSp.Ok Try.prog ρ := by
  refine chgSp_ok fun {s xs d} hs hc hm {β w} hb hne => ?_
  unfold nwSel at hs
  split at hs
  · injection hs with hs
    subst hs
    refine ⟨fun y hy => (by cases hy), (new_calls w).mono ?_⟩
    rintro e w' ⟨rfl, hP, hbl⟩
    have e0 : upd (upd β s.nx (w.heap.size + 1)) (s.nx + 1) (bitsOf (frF (w.heap.size + 1) w.heap.size [])) s.nx = w.heap.size + 1 := by rw [upd_old (by omega), upd_new]
    have e1 : upd (upd β s.nx (w.heap.size + 1)) (s.nx + 1) (bitsOf (frF (w.heap.size + 1) w.heap.size [])) (s.nx + 1) = bitsOf (frF (w.heap.size + 1) w.heap.size []) := upd_new ..
    have hF : ∀ i ∈ frF (w.heap.size + 1) w.heap.size [], w.heap.size ≤ i := fun i hi => by
      rcases List.mem_cons.1 hi with rfl | hi
      · omega
      · rw [List.mem_singleton.1 hi]; exact Nat.le_refl _
    refine ⟨upd (upd β s.nx (w.heap.size + 1)) (s.nx + 1) (bitsOf (frF (w.heap.size + 1) w.heap.size [])), ?_, Only.of_below hbl _, fun l hl => by rw [upd_old (by omega), upd_old (by omega)], fun _ h => (by cases h), fun b hb' => ?_, fun _ h => (by cases h), fun b hb' hr i hi => ?_, fun x hx y hy hxy => ?_, fun _ _ b hb' => (by cases hb')⟩
    · show _ = Ending.returned (.pointer (some ⟨upd (upd β s.nx (w.heap.size + 1)) (s.nx + 1) (bitsOf (frF (w.heap.size + 1) w.heap.size [])) s.nx, 0, none⟩))
      rw [e0]
    · rw [List.mem_singleton.1 hb']
      show (ρ.o 0).P w' (upd (upd β s.nx (w.heap.size + 1)) (s.nx + 1) (bitsOf (frF (w.heap.size + 1) w.heap.size [])) s.nx) (fun i => (upd (upd β s.nx (w.heap.size + 1)) (s.nx + 1) (bitsOf (frF (w.heap.size + 1) w.heap.size [])) (s.nx + 1)).testBit i = true) []
      rw [ho, e0, e1]
      exact ⟨_, _, _, hP, rfl, fun i => bitsOf_test i _⟩
    · rw [List.mem_singleton.1 hb'] at hi
      refine .inr ?_
      rcases hi with hi | ⟨_, hi⟩
      · change i = upd (upd β s.nx (w.heap.size + 1)) (s.nx + 1) (bitsOf (frF (w.heap.size + 1) w.heap.size [])) s.nx at hi
        rw [hi, e0]; omega
      · change (upd (upd β s.nx (w.heap.size + 1)) (s.nx + 1) (bitsOf (frF (w.heap.size + 1) w.heap.size [])) (s.nx + 1)).testBit i = true at hi
        rw [e1, bitsOf_test] at hi
        exact hF i hi
    · rw [List.mem_singleton.1 hx, List.mem_singleton.1 hy] at hxy
      exact absurd rfl hxy
  · cases hs
theorem fr_own (ho : ρ.o 0 = frT) {β : Bn} {w : World} {s : Sy.St} (hb : ∀ b ∈ s.hp, BkOk ρ β w b) {l fl : Nat} {ty : TypeId} {rw : Bool} {t : Tm} (h : ownBr l fl 0 ty rw t ∈ s.hp) : ∃ m bs es, FrT w (β l) m bs es ∧ (den ρ t).c = encs es ∧ ∀ i, (β fl).testBit i = true ↔ i ∈ frF (β l) m bs := by
  have hB : (ρ.o 0).P w (β l) (fun i => (β fl).testBit i = true) (den ρ t).c := hb _ h
  rw [ho] at hB
  exact hB
theorem rf_own (ho : ρ.o 1 = rfT) {β : Bn} {w : World} {s : Sy.St} (hb : ∀ b ∈ s.hp, BkOk ρ β w b) {l fl : Nat} {ty : TypeId} {rw : Bool} {t : Tm} (h : ownBr l fl 1 ty rw t ∈ s.hp) : ∃ a cap ls es, RfM w (β l) a cap ls es ∧ FOk es ∧ (den ρ t).c = encs es ∧ ∀ i, (β fl).testBit i = true ↔ i ∈ rfF (β l) a cap ls := by
  have hB : (ρ.o 1).P w (β l) (fun i => (β fl).testBit i = true) (den ρ t).c := hb _ h
  rw [ho] at hB
  exact hB
theorem fr_chg (ho : ρ.o 0 = frT) {β : Bn} {w w' : World} {s : Sy.St} {l fl m : Nat} {ty : TypeId} {t t' : Tm} {bs : List Nat} {es' : List Ent} (hlx : l + 1 < s.nx) (hd : ownB l fl 0 ty t ∈ s.hp) (hF : ∀ i, (β fl).testBit i = true ↔ i ∈ frF (β l) m bs) (hG : FrGo w w' (β l) m bs es') (ht : (den ρ t').c = encs es') :
    ∃ β', Chg ρ β β' w w' s [] [] [] (some (ownB l s.nx 0 ty t')) := by
  obtain ⟨bs', h1, h2, h3⟩ := hG
  exact ⟨_, own_chg hlx (Nat.le_refl _) hd hF (F' := frF (β l) m bs') (by rw [ho, ht]; exact ⟨m, bs', es', h1, rfl, fun i => Iff.rfl⟩) h2 h3⟩
theorem rf_chg (ho : ρ.o 1 = rfT) {β : Bn} {w w' : World} {s : Sy.St} {l fl a cap : Nat} {ty : TypeId} {t t' : Tm} {ls : List (Nat × Nat)} {es' : List Ent} (hlx : l + 1 < s.nx) (hd : ownB l fl 1 ty t ∈ s.hp) (hF : ∀ i, (β fl).testBit i = true ↔ i ∈ rfF (β l) a cap ls) (hG : RfGo w w' (β l) a cap ls es') (hok : FOk es') (ht : (den ρ t').c = encs es') :
    ∃ β', Chg ρ β β' w w' s [] [] [] (some (ownB l s.nx 1 ty t')) := by
  obtain ⟨a', c', ls', h1, h2, h3⟩ := hG
  exact ⟨_, own_chg hlx (Nat.le_refl _) hd hF (F' := rfF (β l) a' c' ls') (by rw [ho, ht]; exact ⟨a', c', ls', es', h1, hok, rfl, fun i => Iff.rfl⟩) h2 h3⟩
theorem f24 (hf : ρ.f = lwF) (x : Tm) : (den ρ (.ap 24 (.il 0) x (.il 0))).i = tkE (den ρ x).i := by
  show (ρ.f 24 (dI 0) (den ρ x) (dI 0)).i = _
  rw [hf]; rfl
theorem tkSp_ok (hf : ρ.f = lwF) (ho : ρ.o 0 = frT) : tkSp.Ok Try.prog ρ := by
  refine chgSp_ok fun {s xs d} hs hc hm {β w} hb hne => ?_
  unfold tkSel at hs
  split at hs
  · rename_i l n
    split at hs
    · rename_i ty fl k t hfo
      split at hs
      · rename_i hk
        have hk := Nat.eq_of_beq_eq_true hk
        subst hk
        injection hs with hs
        subst hs
        obtain ⟨hd, hlx⟩ := ownGr_ok hfo
        obtain ⟨m, bs, es, hT, he, hF⟩ := fr_own ho hb hd
        obtain ⟨n0, n1⟩ := inI_ok hc hm
        refine ⟨fun y hy => ?_, (tick_calls hT n0 n1).mono ?_⟩
        · rw [List.mem_singleton.1 hy]
          show 0 ≤ (den ρ (.ap 24 (.il 0) n (.il 0))).i ∧ (den ρ (.ap 24 (.il 0) n (.il 0))).i ≤ 1
          rw [f24 hf]
          exact tkE_bd _
        · rintro e' w' ⟨v, rfl, rfl, hG⟩
          obtain ⟨β', hC⟩ := fr_chg (t' := .ap 23 t n (.il 0)) ho hlx hd hF hG (f23 hf hT.ok he)
          refine ⟨β', ?_, hC⟩
          show _ = Ending.returned (.int .i64 (den ρ (.ap 24 (.il 0) n (.il 0))).i)
          rw [f24 hf]
      · cases hs
    · cases hs
  · cases hs
theorem rtkSp_ok (hf : ρ.f = lwF) (ho : ρ.o 1 = rfT) : rtkSp.Ok Try.prog ρ := by
  refine chgSp_ok fun {s xs d} hs hc hm {β w} hb hne => ?_
  unfold tkSel at hs
  split at hs
  · rename_i l n
    split at hs
    · rename_i ty fl k t hfo
      split at hs
      · rename_i hk
        have hk := Nat.eq_of_beq_eq_true hk
        subst hk
        injection hs with hs
        subst hs
        obtain ⟨hd, hlx⟩ := ownGr_ok hfo
        obtain ⟨a, cap, ls, es, hT, hok, he, hF⟩ := rf_own ho hb hd
        obtain ⟨n0, n1⟩ := inI_ok hc hm
        refine ⟨fun y hy => ?_, (rtick_calls hT hok n0 n1).mono ?_⟩
        · rw [List.mem_singleton.1 hy]
          show 0 ≤ (den ρ (.ap 24 (.il 0) n (.il 0))).i ∧ (den ρ (.ap 24 (.il 0) n (.il 0))).i ≤ 1
          rw [f24 hf]
          exact tkE_bd _
        · rintro e' w' ⟨v, rfl, rfl, hG⟩
          obtain ⟨β', hC⟩ := rf_chg (t' := .ap 23 t n (.il 0)) ho hlx hd hF hG (hok.tick _) (f23 hf hok he)
          refine ⟨β', ?_, hC⟩
          show _ = Ending.returned (.int .i64 (den ρ (.ap 24 (.il 0) n (.il 0))).i)
          rw [f24 hf]
      · cases hs
    · cases hs
  · cases hs
theorem inSp_ok (hf : ρ.f = lwF) (ho : ρ.o 0 = frT) (K : LwK p ρ) : inSp.Ok Try.prog ρ := by
  refine chgSp_ok fun {s xs d} hs hc hm {β w} hb hne => ?_
  unfold inSel at hs
  split at hs
  · rename_i l cs
    split at hs
    · rename_i ty fl t hfo
      split at hs
      · rename_i hk
        have hk := sameCs_eq hk
        subst hk
        injection hs with hs
        subst hs
        obtain ⟨hd, hlx⟩ := ownGr_ok hfo
        obtain ⟨m, bs, es, hT, he, hF⟩ := fr_own ho hb hd
        have hx : ([SV.one (.c (.ptr l 0)), SV.one (.agg (pkC 107))].map (SV.den ρ β)).toArray = #[.pointer (some ⟨β l, 0, none⟩), .agg p.toArray] := by
          show #[Value.pointer (some ⟨β l, 0, none⟩), .agg (denL ρ β (pkC 107)).toArray] = _
          rw [K.k]
        refine ⟨fun y hy => (by cases hy), ?_⟩
        rw [hx]
        refine (in_calls hT K.ok).mono ?_
        rintro e' w' ⟨v, rfl, rfl, hG⟩
        obtain ⟨β', hC⟩ := fr_chg (t' := .ap 21 t kR (.il 0)) ho hlx hd hF hG (f21 hf K hT.ok he)
        exact ⟨β', by rw [anV_den hf K hT.ok he], hC⟩
      · cases hs
    · cases hs
  · cases hs
theorem rinSp_ok (hf : ρ.f = lwF) (ho : ρ.o 1 = rfT) (K : LwK p ρ) : rinSp.Ok Try.prog ρ := by
  refine chgSp_ok fun {s xs d} hs hc hm {β w} hb hne => ?_
  unfold rinSel at hs
  split at hs
  · rename_i l cs
    split at hs
    · rename_i ty fl t hfo
      split at hs
      · rename_i hk
        have hk := sameCs_eq hk
        subst hk
        injection hs with hs
        subst hs
        obtain ⟨hd, hlx⟩ := ownGr_ok hfo
        obtain ⟨a, cap, ls, es, hT, hok, he, hF⟩ := rf_own ho hb hd
        have hlt := need_ok hc hm
        rw [t_lt, f25 hf hok he] at hlt
        change mxL es < 1099511627776 at hlt
        have hx : ([SV.one (.c (.ptr l 0)), SV.one (.agg (pkC 107))].map (SV.den ρ β)).toArray = #[.pointer (some ⟨β l, 0, none⟩), .agg p.toArray] := by
          show #[Value.pointer (some ⟨β l, 0, none⟩), .agg (denL ρ β (pkC 107)).toArray] = _
          rw [K.k]
        refine ⟨fun y hy => (by cases hy), ?_⟩
        rw [hx]
        refine (rin_calls hT hok (fun e he => by have := mxL_ge he; omega) K.ok).mono ?_
        rintro e' w' ⟨v, rfl, rfl, hG⟩
        obtain ⟨β', hC⟩ := rf_chg (t' := .ap 21 t kR (.il 0)) ho hlx hd hF hG (hok.inA K.ok) (f21 hf K hok he)
        exact ⟨β', by rw [anV_den hf K hok he], hC⟩
      · cases hs
    · cases hs
  · cases hs
theorem opSp_ok (ho : ρ.o 0 = frT) : opSp.Ok Try.prog ρ := by
  refine chgSp_ok fun {s xs d} hs hc hm {β w} hb hne => ?_
  unfold opSel at hs
  split at hs
  · rename_i l
    split at hs
    · rename_i ty fl rw t hfo
      injection hs with hs
      subst hs
      obtain ⟨hd, hlx⟩ := ownGr_ok hfo
      obtain ⟨m, bs, es, hT, he, hF⟩ := fr_own ho hb hd
      have h8 := hT.ok.l8
      have el : (((den ρ t).c.length : Nat) : Int) = (es.length : Int) := by rw [he, encs_len]
      refine ⟨fun y hy => ?_, (open_calls hT).mono ?_⟩
      · rw [List.mem_singleton.1 hy]
        show 0 ≤ (((den ρ t).c.length : Nat) : Int) ∧ (((den ρ t).c.length : Nat) : Int) ≤ 8
        omega
      · rintro e' w' ⟨v, rfl, rfl, hbl⟩
        refine ⟨β, ?_, no_chg hbl⟩
        show _ = Ending.returned (.int .i64 (((den ρ t).c.length : Nat) : Int))
        rw [el]
    · cases hs
  · cases hs
end
end Go.Proofs.Ytnmfmjlpfhdgeaa
/- FragSays: runs with letters. -/
namespace Go.Proofs.Ytnmfmjlpfhdgeaa
open Go.RowKit Sy
set_option linter.unusedVariables false
set_option linter.unusedSimpArgs false

def lwP : List Nat := [1, 1, 1, 0]
def lwA : List SV := [.one (.c (.opq 0))]
def lwSt0 : Sy.St := ⟨[], [], ⟨[], []⟩, 0⟩
def lwPre (P : Program) (fn : Func) : Rs := run P [nwSp, tkSp] 10 400 0 (.code (pre lwP (bodyOf fn))) (enterS fn lwA lwSt0)
def lwVs : List (Nat × SV) := [(0, .one (.c (.opq 0))), (2, .one (.c (.bool (.bl false)))), (3, vp 0), (4, vp 2), (23, .one (.c (.opq 0))), (24, vi (.iv 1)), (25, vi (.iv 0))]
def lwHp (t : Tm) : List Bk := [ownB 2 6 1 28 t, ownB 0 4 0 53 t]
def mxT : Tm := .ap 25 (.cv 0) (.il 0) (.il 0)
def lwBs : List Bd := [⟨.iv 0, 0, 549755813888⟩, ⟨.iv 1, 0, 549755813888⟩, ⟨tlen (.cv 0), 0, 8⟩, ⟨mxT, 0, 549755813888⟩]
def lwS (P : Program) (fn : Func) : Sy.St := { lfAt (lwPre P fn) 1 with hp := lwHp tn }
def lwI (P : Program) (fn : Func) : Sy.St := saysIn (lwS P fn) 23 24 25
def lwT : Sy.St := ⟨tmL 79 lwVs, lwHp (.cv 0), ⟨lwBs, []⟩, 70⟩
def lwX (P : Program) (fn : Func) : Sy.St := saysX P fn lwP lwT 0 200 27 28 6
def lwXb (a b : Int) : List Bd := [⟨.md (.iv 100) (.il 6), a, b⟩, i64B 100, i64B 101]
def lwSp : List Sy.Spec := [ofSp, tkSp, rtkSp, inSp, rinSp, opSp]
def lwB (fn : Func) : Code := Sy.sub [1, 1, 0, 2, 1] (saysB fn lwP)
def lwOp (P : Program) (fn : Func) (a b : Int) : Rs := run P lwSp 10 400 0 (.code (pre [1] (lwB fn))) { lwX P fn with cx := ⟨lwXb a b ++ lwBs, []⟩ }
def lwT14 : Sy.St := ⟨tmL 79 lwVs, [ownBr 0 4 0 53 false (.cv 0), ⟨2, 28, [.slt 40 2 (.il 0) (tlen (.cv 0)) (.il 0)], false, none, .no⟩, ⟨40, 64, [], false, none, .tab rLv (.cv 7)⟩], ⟨lwBs, [.le (tlen (.cv 0)) (tlen (.cv 7))]⟩, 70⟩
def lw14 (P : Program) (fn : Func) : Rs := run P [opSp] 10 400 70 (.code (Sy.sub [1] (lwB fn))) lwT14
def lwc16 : Cx := ⟨lwBs, [.lt (.iv 0) (.iv 1)]⟩
def lw16 (P : Program) (fn : Func) : Rs := run P [] 10 400 0 (.code (aft .normal [1, 1, 0, 2] (saysB fn lwP))) { lwT with cx := lwc16 }
def lwEnd (P : Program) (fn : Func) : Rs := run P [] 10 400 0 (.code (aft .normal (lwP ++ [1]) (bodyOf fn))) (lfAt (saysHd P fn lwP lwT 0) 1)
set_option maxRecDepth 100000 in
theorem lw_pre : shR 0 none (lwPre Try.prog Try.f3) = some [.out 0 .ret [.not (.eq (.ap 24 (.il 0) (.il (-1)) (.il 0)) (.il 1))], .out 1 .normal [(.eq (.ap 24 (.il 0) (.il (-1)) (.il 0)) (.il 1))]] := by kernel_rfl
set_option maxRecDepth 100000 in
theorem lw_hp0 : (lfAt (lwPre Try.prog Try.f3) 1).hp = [⟨2, 28, [.nslc], true, none, .no⟩, ownB 0 4 0 53 (.ap 23 tn (.il (-1)) (.il 0))] := by kernel_rfl
set_option maxRecDepth 100000 in
theorem lw_free : ((lfAt (lwPre Try.prog Try.f3) 1).free 6, (lfAt (lwPre Try.prog Try.f3) 1).free 7) = (true, true) := by kernel_rfl
set_option maxRecDepth 100000 in
theorem lw_code : SaysCode Try.prog Try.f3 lwP lwT 0 200 0 23 24 25 27 28 6 where
  rg4 := ⟨Sy.opAt (Sy.sub (lwP ++ [0]) (bodyOf Try.f3)) 0, Sy.opAt (Sy.sub (lwP ++ [0]) (bodyOf Try.f3)) 1, Sy.opAt (Sy.sub (lwP ++ [0]) (bodyOf Try.f3)) 2, by kernel_rfl, ⟨by kernel_rfl, by kernel_rfl, by kernel_rfl⟩, ⟨by kernel_rfl, by kernel_rfl, by kernel_rfl⟩, ⟨by kernel_rfl, by kernel_rfl, by kernel_rfl⟩⟩
  at_ := by kernel_rfl
  hd := by kernel_rfl
  row := ⟨Sy.opAt (Sy.sub rowP (saysB Try.f3 lwP)) 0, Sy.opAt (Sy.sub rowP (saysB Try.f3 lwP)) 1, Sy.opAt (Sy.sub rowP (saysB Try.f3 lwP)) 2, Sy.opAt (Sy.sub rowP (saysB Try.f3 lwP)) 3, by kernel_rfl, ⟨by kernel_rfl, by kernel_rfl, by kernel_rfl⟩, ⟨by kernel_rfl, by kernel_rfl, by kernel_rfl⟩, ⟨by kernel_rfl, by kernel_rfl, by kernel_rfl⟩, ⟨by kernel_rfl, by kernel_rfl, by kernel_rfl⟩⟩
  lo1 := by kernel_rfl
  any1 := by kernel_rfl
  tx := by kernel_rfl
  ti := by kernel_rfl
  hnr := by decide
  free := by kernel_rfl
  e1 := by kernel_rfl
  e2 := by kernel_rfl
  e3 := by kernel_rfl
  e4 := by kernel_rfl
  out := by kernel_rfl
  uS := Try.underlying22
  uE := ⟨_, Try.underlying45, rfl⟩
  inf := step_info
  zero := by kernel_rfl
  zlen := by kernel_rfl
set_option maxRecDepth 100000 in
theorem lw_in : (matchS 0 lwT (lwI Try.prog Try.f3)).map noU = some [.i 0 (.il 0), .c 0 tn, .c 0 tn] := by kernel_rfl
set_option maxRecDepth 100000 in
theorem lw_tm : ((lwS Try.prog Try.f3).tm[0]?, ((lwS Try.prog Try.f3).put (some 23) (.one (.c (.opq 0)))).tm[23]?) = (some (.one (.c (.opq 0))), some (.one (.c (.opq 0)))) := by kernel_rfl
theorem lw_okP : okP lwP (bodyOf Try.f3) = true := by kernel_rfl
set_option maxRecDepth 100000 in
theorem lw_op0 : shR 0 (some lwT) (lwOp Try.prog Try.f3 0 0) = some [.back [.c 0 (.ap 23 (.cv 0) (.iv 101) (.il 0)), .c 0 (.ap 23 (.cv 0) (.iv 101) (.il 0))] []] := by kernel_rfl
set_option maxRecDepth 100000 in
theorem lw_op1 : shR 0 (some lwT) (lwOp Try.prog Try.f3 1 5) = some [.back [.c 0 (.ap 21 (.cv 0) kR (.il 0)), .c 0 (.ap 21 (.cv 0) kR (.il 0))] []] := by kernel_rfl
set_option maxRecDepth 100000 in
theorem lw_14 : shR 70 none (lw14 Try.prog Try.f3) = some [.out 0 .normal [.le (tlen (.cv 0)) (tlen (.cv 7))]] := by kernel_rfl
set_option maxRecDepth 100000 in
theorem lw_m14 : (matchS 70 { lwT14 with cx := ⟨[], []⟩ } (lfAt (lw14 Try.prog Try.f3) 0)).map noU = some [] := by kernel_rfl
set_option maxRecDepth 100000 in
theorem lw_16 : shR 0 (some lwT) (lw16 Try.prog Try.f3) = some [.back [.i 0 (.add (.iv 0) (.il 1))] [.lt (.iv 0) (.iv 1)]] := by kernel_rfl
set_option maxRecDepth 100000 in
theorem lw_end : shR 0 none (lwEnd Try.prog Try.f3) = some [.out 0 .ret [.not (.lt (.iv 0) (.iv 1))]] := by kernel_rfl
set_option maxRecDepth 100000 in
theorem lw_ret : retsB Try.prog Try.f3 (lwEnd Try.prog Try.f3) (.one (.c (.bool (.bl true)))) [0] = true := by kernel_rfl
end Go.Proofs.Ytnmfmjlpfhdgeaa
/- FragSays: rounds. -/
namespace Go.Proofs.Ytnmfmjlpfhdgeaa
open Go.RowKit Sy
set_option linter.unusedVariables false
set_option linter.unusedSimpArgs false

theorem mxL_0 (es : List Ent) : 0 ≤ mxL es := (mxL_fold es 0).1
theorem mx_in (es : List Ent) (p : List Value) : mxL (inA' es p).es ≤ mxL es + 1 := by
  have h0 := mxL_0 es
  refine mxL_le (by omega) fun e he => ?_
  have old : ∀ {x : Ent}, x ∈ es → (x.2.length : Int) ≤ mxL es + 1 := fun {x} hx => by have := mxL_ge hx; omega
  unfold inA' at he
  split at he
  · unfold tbA at he
    cases hx : ixN (nameOf p) es with
    | none =>
      rw [hx] at he
      simp only at he
      split at he
      · exact old he
      · rcases List.mem_append.1 he with q | q
        · exact old q
        · rw [List.mem_singleton.1 q]
          show ((1 : Nat) : Int) ≤ _
          omega
    | some i =>
      rw [hx] at he
      simp only at he
      split at he
      · exact old (List.mem_of_mem_eraseIdx he)
      · split at he
        · exact old (List.mem_of_mem_eraseIdx he)
        · rcases List.mem_or_eq_of_mem_set he with q | q
          · exact old q
          · rw [q]
            have hi := (ixN_some hx).1
            have := mxL_ge (es := es) (List.getElem_mem hi)
            rw [← getD_at hi] at this
            show (((es.getD i (0, [])).2 ++ [p]).length : Int) ≤ _
            rw [List.length_append, List.length_singleton]
            omega
  · exact old he
theorem mx_tk (es : List Ent) (n : Int) : mxL (tkL es n) ≤ mxL es := by
  refine mxL_le (mxL_0 es) fun e he => ?_
  unfold tkL at he
  split at he
  · exact mxL_ge he
  · obtain ⟨x, hx, rfl⟩ := List.mem_map.1 he
    show (x.2.length : Int) ≤ mxL es
    exact mxL_ge (List.mem_filter.1 hx).1
structure LwJ (vs : Value) (len : Nat) (k m : Int) (ρ : Env) : Prop where
  g : ρ.good
  v : ρ.v 0 = vs
  f : ρ.f = lwF
  o0 : ρ.o 0 = frT
  o1 : ρ.o 1 = rfT
  k0 : ρ.i 0 = k
  i0 : 0 ≤ k
  le : k ≤ len
  i1 : ρ.i 1 = (len : Int)
  es : ∃ es, FOk es ∧ ρ.c 0 = encs es ∧ mxL es ≤ m
abbrev LwI (vs : Value) (len : Nat) (ρ : Env) : Prop := LwJ vs len (ρ.i 0) (ρ.i 0) ρ
section
variable {vs : Value} {len : Nat} {k m : Int} {ρ : Env}
theorem LwJ.bs (hl : len ≤ 549755813888) (hm : m ≤ len) (h : LwJ vs len k m ρ) : bdsP ρ lwBs := by
  obtain ⟨es, ho, hc, hx⟩ := h.es
  have k0 := h.k0
  have i0 := h.i0
  have le := h.le
  have i1 := h.i1
  have h8 := ho.l8
  have hmx : (den ρ mxT).i = mxL es := f25 (t := .cv 0) h.f ho hc
  have h0 := mxL_0 es
  refine ⟨?_, ?_, ?_, ?_, trivial⟩
  · show 0 ≤ ρ.i 0 ∧ ρ.i 0 ≤ 549755813888; omega
  · show 0 ≤ ρ.i 1 ∧ ρ.i 1 ≤ 549755813888; omega
  · show (0 : Int) ≤ ((ρ.c 0).length : Int) ∧ ((ρ.c 0).length : Int) ≤ 8
    rw [hc, encs_len]; omega
  · show 0 ≤ (den ρ mxT).i ∧ (den ρ mxT).i ≤ 549755813888
    rw [hmx]; omega
theorem LwJ.hi (h : LwJ vs len k m ρ) (cs : List Value) (u : Nat → Value) : LwJ vs len k m { ρ.hi 100 cs with u := u } := ⟨h.g, h.v, h.f, h.o0, h.o1, h.k0, h.i0, h.le, h.i1, h.es⟩
theorem x_int {cs : List Value} (h : leafAll stepLeaves cs) (n : Nat) (hn : stepLeaves[n]? = some (some (some .i64))) : -9223372036854775808 ≤ intAt cs n ∧ intAt cs n ≤ 9223372036854775807 := by
  obtain ⟨y, hy, hw⟩ := leaf_int h n hn
  unfold intAt
  rw [hy]
  exact bounds_i64 hw
theorem lw_rest (Q : Exit → Act → World → Prop) : (Sy.sub [1] (lwB Try.f3)).wp Try.prog Q = (Sy.sub [1] (lwB Try.f3)).wp Try.prog Q := rfl
theorem lw_f40 : (lwT.free 40, lwT.free 41) = (true, true) := by kernel_rfl
theorem lw_tmE {ρ ρ' : Env} {β β' : Bn} (h0 : β' 0 = β 0) (h2 : β' 2 = β 2) (hv : ρ'.v = ρ.v) (hu : ρ'.u = ρ.u) (hi0 : ρ'.i 0 = ρ.i 0) (hi1 : ρ'.i 1 = ρ.i 1) : (tmL 79 lwVs).map (SV.den ρ' β') = (tmL 79 lwVs).map (SV.den ρ β) := by
  have key : ∀ x ∈ tmL 79 lwVs, (∃ k, x = .any k) ∨ x ∈ lwVs.map fun q => q.2 := fun x hx => by
    obtain ⟨k, _, rfl⟩ := List.mem_map.1 hx
    split
    · rename_i q hq
      exact .inr (List.mem_map.2 ⟨q, List.mem_of_find?_eq_some hq, rfl⟩)
    · exact .inl ⟨k, rfl⟩
  refine List.map_congr_left fun x hx => ?_
  rcases key x hx with ⟨k, rfl⟩ | q
  · show ρ'.u k = ρ.u k
    rw [hu]
  · simp only [lwVs, List.map_cons, List.map_nil, List.mem_cons, List.not_mem_nil, or_false] at q
    rcases q with rfl | rfl | rfl | rfl | rfl | rfl | rfl
    · show ρ'.v 0 = ρ.v 0
      rw [hv]
    · rfl
    · show Value.pointer (some ⟨β' 0, 0, none⟩) = .pointer (some ⟨β 0, 0, none⟩)
      rw [h0]
    · show Value.pointer (some ⟨β' 2, 0, none⟩) = .pointer (some ⟨β 2, 0, none⟩)
      rw [h2]
    · show ρ'.v 0 = ρ.v 0
      rw [hv]
    · show Value.int .i64 (ρ'.i 1) = .int .i64 (ρ.i 1)
      rw [hi1]
    · show Value.int .i64 (ρ'.i 0) = .int .i64 (ρ.i 0)
      rw [hi0]
set_option maxRecDepth 100000 in
set_option maxHeartbeats 2000000 in
/-- From behind the calls to the round's end. -/
theorem lw_tail (hl : len ≤ 549755813888) (J : LwJ vs len k (k + 1) ρ) (hlt : k < len) {w0 w : World} {β : Bn} {a : Act} {Q : Exit → Act → World → Prop} (M : Md ρ (fun _ => False) w0 (fun _ => 0) 0 lwT β a w) :
    (Sy.sub [1] (lwB Try.f3)).wp Try.prog (ctx Try.prog [1] (lwB Try.f3) (ctx Try.prog [1, 1, 0, 2] (saysB Try.f3 lwP) (Exit.then (NextR (fun _ => False) w0 (fun _ => 0) 0 lwT (LwI vs len) saysMu ((len : Int) - k).toNat) Q))) a w := by
  have m0 : ownB 0 4 0 53 (.cv 0) ∈ lwT.hp := List.mem_cons_of_mem _ (List.mem_cons_self ..)
  have m2 : ownB 2 6 1 28 (.cv 0) ∈ lwT.hp := List.mem_cons_self ..
  have B0 : (ρ.o 0).P w (β 0) (fun i => (β 4).testBit i = true) (ρ.c 0) := M.hp _ m0
  have B2 : (ρ.o 1).P w (β 2) (fun i => (β 6).testBit i = true) (ρ.c 0) := M.hp _ m2
  have N : apart β (ownB 0 4 0 53 (.cv 0)) (ownB 2 6 1 28 (.cv 0)) := M.ne _ m0 _ m2 (by decide) (own_real rfl) (own_real rfl)
  obtain ⟨aa, cap, ls, es, hM, hok, hc, hF⟩ := rf_own J.o1 (s := lwT) M.hp m2
  have hc : ρ.c 0 = encs es := hc
  have hlen : (ρ.c 0).length = es.length := by rw [hc, encs_len]
  have f2 : ∀ i, i ∈ rfF (β 2) aa cap ls → fp β (ownB 2 6 1 28 (.cv 0)) i := fun i hi => .inr ⟨rfl, (hF i).2 hi⟩
  obtain ⟨β2, hβ2⟩ : ∃ x, upd (upd β 40 aa) 41 cap = x := ⟨_, rfl⟩
  have old2 : ∀ l, l < 40 → β2 l = β l := fun l hl => by rw [← hβ2, upd_old (by omega), upd_old (by omega)]
  have e40 : β2 40 = aa := by rw [← hβ2, upd_old (by omega), upd_new]
  have e41 : β2 41 = cap := by rw [← hβ2, upd_new]
  obtain ⟨ρ2, hρ2⟩ : ∃ x : Env, ({ ρ with c := fun n => if n = 7 then rfR ls es else ρ.c n } : Env) = x := ⟨_, rfl⟩
  have c0 : ρ2.c 0 = ρ.c 0 := by rw [← hρ2]; rfl
  have c7 : ρ2.c 7 = rfR ls es := by rw [← hρ2]; rfl
  have o2 : ρ2.o 0 = frT := by rw [← hρ2]; exact J.o0
  have g2 : ρ2.good := by rw [← hρ2]; exact J.g
  have J2 : LwJ vs len k (k + 1) ρ2 := by rw [← hρ2]; exact ⟨J.g, J.v, J.f, J.o0, J.o1, J.k0, J.i0, J.le, J.i1, J.es⟩
  have M2 : Md ρ2 (fun _ => False) w β2 70 lwT14 β2 a w := by
    refine Sy.Md.anew ?_ ⟨?_, ?_, ?_, trivial⟩ ⟨⟨fun _ _ => ?_, fun _ q => ?_, trivial⟩, ⟨fun _ q => ?_, trivial⟩, trivial, trivial⟩ ⟨fun h => (by cases h), fun h => (by cases h), fun h => (by cases h), trivial⟩ (cxP (J2.bs hl (by omega)) ⟨?_, trivial⟩)
    · rw [M.act]
      show (⟨((tmL 79 lwVs).map (SV.den ρ β)).toArray, []⟩ : Act) = ⟨((tmL 79 lwVs).map (SV.den ρ2 β2)).toArray, []⟩
      rw [lw_tmE (ρ := ρ) (ρ' := ρ2) (β := β) (β' := β2) (old2 0 (by decide)) (old2 2 (by decide)) (by rw [← hρ2]) (by rw [← hρ2]) (by rw [← hρ2]) (by rw [← hρ2])]
    · show (ρ2.o 0).P w (β2 0) (fun i => (β2 4).testBit i = true) (ρ2.c 0)
      rw [o2, c0, old2 0 (by decide), old2 4 (by decide), ← J.o0]
      exact B0
    · show Blk w (β2 2) 28 [sltZ (β2 40) (β2 41) 2 0 ((ρ2.c 0).length : Int).toNat 0]
      rw [sltZ_zero, e40, e41, old2 2 (by decide), c0, hlen, Int.toNat_natCast]
      exact hM.obj
    · show RowT w (β2 40) (β2 41) 64 rLv (ρ2.c 7)
      rw [e40, e41, c7]
      exact hM.tab
    · intro g g1 g2
      have g2 : g = β2 2 := fp_one rfl g2
      rw [old2 2 (by decide)] at g2
      refine N g ?_ (.inl g2)
      rcases g1 with q | ⟨_, q⟩
      · exact .inl (q.trans (old2 0 (by decide)))
      · refine .inr ⟨rfl, ?_⟩
        change (β2 4).testBit g = true at q
        rw [old2 4 (by decide)] at q
        exact q
    · intro g g1 g2
      have g2 : g = β2 40 := fp_one rfl g2
      have hcap : β2 41 ≠ 0 := q.resolve_left (by simp [Bk.nilable, Xt.isTab])
      rw [e40] at g2
      rw [e41] at hcap
      refine N g ?_ (f2 g (by rw [g2]; exact rfF_a hcap))
      rcases g1 with q | ⟨_, q⟩
      · exact .inl (q.trans (old2 0 (by decide)))
      · refine .inr ⟨rfl, ?_⟩
        change (β2 4).testBit g = true at q
        rw [old2 4 (by decide)] at q
        exact q
    · have hcap : β2 41 ≠ 0 := q.resolve_left (by simp [Bk.nilable, Xt.isTab])
      rw [e41] at hcap
      refine apart.of rfl rfl ?_
      show β2 2 ≠ β2 40
      rw [e40, old2 2 (by decide)]
      exact hM.u_a hcap
    · rw [t_le]
      show ((ρ2.c 0).length : Int) ≤ ((ρ2.c 7).length : Int)
      rw [c0, c7, hlen, rfR_len hM.len]
      exact Int.le_refl _
  refine part_wp (B := ⟨ρ2, fun _ => False, w, β2, 70⟩) (sp := [opSp]) g2 (fun q hq => by rw [List.mem_singleton.1 hq]; exact opSp_ok o2) rfl (r := lw14 Try.prog Try.f3) rfl lw_14 ⟨?_, trivial⟩ M2
  intro _ β3 a3 w3 M3
  obtain ⟨u, β4, M4⟩ := Sy.Md.enter M3 lw_m14 fun u => ⟨fun _ h => (by cases h), fun _ h => (by cases h)⟩
  show ctx Try.prog [1, 1, 0, 2] (saysB Try.f3 lwP) _ .normal a3 w3
  have old4 : ∀ l, l < 40 → β4 l = β l := fun l hl => (M4.old l (show l < 70 by omega)).trans (old2 l hl)
  have hO : Only (fun _ => False) w w3 := M4.only
  have hOB := M.only
  have J5 : LwJ vs len k (k + 1) { ρ with u := u } := ⟨J.g, J.v, J.f, J.o0, J.o1, J.k0, J.i0, J.le, J.i1, J.es⟩
  have fpE : ∀ b ∈ lwT.hp, ∀ g, fp β4 b g → fp β b g := fun b hb g hg => by
    have hb : b ∈ [ownB 2 6 1 28 (.cv 0), ownB 0 4 0 53 (.cv 0)] := hb
    simp only [List.mem_cons, List.not_mem_nil, or_false] at hb
    rcases hb with rfl | rfl
    · rcases hg with q | ⟨_, q⟩
      · exact .inl (q.trans (old4 2 (by decide)))
      · refine .inr ⟨rfl, ?_⟩
        change (β4 6).testBit g = true at q
        rw [old4 6 (by decide)] at q
        exact q
    · rcases hg with q | ⟨_, q⟩
      · exact .inl (q.trans (old4 0 (by decide)))
      · refine .inr ⟨rfl, ?_⟩
        change (β4 4).testBit g = true at q
        rw [old4 4 (by decide)] at q
        exact q
  have M5 : Md { ρ with u := u } (fun _ => False) w0 (fun _ => 0) 0 { lwT with cx := lwc16 } β4 a3 w3 := by
    refine ⟨?_, fun b hb => ?_, fun x hx y hy hxy _ _ g gx gy => ?_, fun b hb hw hr g hg => M.may b hb hw (own_real (by
      have hb : b ∈ [ownB 2 6 1 28 (.cv 0), ownB 0 4 0 53 (.cv 0)] := hb
      simp only [List.mem_cons, List.not_mem_nil, or_false] at hb
      rcases hb with rfl | rfl <;> rfl)) g (fpE b hb g hg), cxP (J5.bs hl (by omega)) ⟨?_, trivial⟩, ⟨hO.os.trans hOB.os, hO.tape.trans hOB.tape, hO.output.trans hOB.output, Nat.le_trans hOB.size hO.size, fun i hi hs => (hO.block i (Nat.lt_of_lt_of_le hi hOB.size) hs).trans (hOB.block i hi hs)⟩, fun l hl => absurd hl (Nat.not_lt_zero l)⟩
    · rw [M4.act]
      show (⟨((tmL 79 lwVs).map (SV.den { ρ2.sub β3 [] with u := u } β4)).toArray, []⟩ : Act) = ⟨((tmL 79 lwVs).map (SV.den { ρ with u := u } β4)).toArray, []⟩
      exact congrArg (fun l : List Value => (⟨l.toArray, []⟩ : Act)) (lw_tmE (ρ := { ρ with u := u }) (ρ' := { ρ2.sub β3 [] with u := u }) (β := β4) (β' := β4) rfl rfl (by rw [← hρ2]; rfl) rfl (by rw [← hρ2]; rfl) (by rw [← hρ2]; rfl))
    · have hb : b ∈ [ownB 2 6 1 28 (.cv 0), ownB 0 4 0 53 (.cv 0)] := hb
      simp only [List.mem_cons, List.not_mem_nil, or_false] at hb
      rcases hb with rfl | rfl
      · show (ρ.o 1).P w3 (β4 2) (fun i => (β4 6).testBit i = true) (ρ.c 0)
        rw [old4 2 (by decide), old4 6 (by decide)]
        exact (ρ.o 1).keep B2 fun i hi => hO.block i ((ρ.o 1).lt B2 i hi) (fun h => h)
      · show (ρ.o 0).P w3 (β4 0) (fun i => (β4 4).testBit i = true) (ρ.c 0)
        rw [old4 0 (by decide), old4 4 (by decide)]
        exact (ρ.o 0).keep B0 fun i hi => hO.block i ((ρ.o 0).lt B0 i hi) (fun h => h)
    · have real : ∀ b ∈ lwT.hp, b.real β := fun b hb => own_real (by
        have hb : b ∈ [ownB 2 6 1 28 (.cv 0), ownB 0 4 0 53 (.cv 0)] := hb
        simp only [List.mem_cons, List.not_mem_nil, or_false] at hb
        rcases hb with rfl | rfl <;> rfl)
      exact M.ne x hx y hy hxy (real x hx) (real y hy) g (fpE x hx g gx) (fpE y hy g gy)
    · rw [t_lt]
      show ρ.i 0 < ρ.i 1
      rw [J.k0, J.i1]; exact hlt
  refine round_aft .normal (sp := []) (p := [1, 1, 0, 2]) (T := lwT) (r := lw16 Try.prog Try.f3) rfl lw_16 (I := LwI vs len) (fun ρ h => cxP (h.bs hl (by have := h.le; exact this)) trivial) J5.g (fun q hq => by cases hq) ⟨?_, trivial⟩ M5
  intro _ β6 u6
  have k0 := J.k0
  have i0 := J.i0
  have i1 := J.i1
  refine ⟨⟨J.g, J.v, J.f, J.o0, J.o1, rfl, ?_, ?_, J.i1, ?_⟩, ?_⟩
  · show 0 ≤ ρ.i 0 + 1
    omega
  · show ρ.i 0 + 1 ≤ (len : Int)
    omega
  · obtain ⟨es, h1, h2, h3⟩ := J.es
    refine ⟨es, h1, h2, ?_⟩
    show mxL es ≤ ρ.i 0 + 1
    omega
  · show (ρ.i 1 - (ρ.i 0 + 1)).toNat < ((len : Int) - k).toNat
    omega
end
end Go.Proofs.Ytnmfmjlpfhdgeaa
/- FragSays: the walk. -/
namespace Go.Proofs.Ytnmfmjlpfhdgeaa
open Go.RowKit Sy
set_option linter.unusedVariables false
set_option linter.unusedSimpArgs false

/-- A plain block told as a thing. -/
theorem Md.reFp {ρ : Env} {S : Nat → Prop} {w0 w : World} {β0 β : Bn} {n0 : Nat} {s : Sy.St} {a : Act} (hM : Md ρ S w0 β0 n0 s β a w) {b b' : Bk} (hb : b ∈ s.hp) (hl : b'.l = b.l) (hr : b'.rw = true → b.rw = true) (hreal : b.real β) (hfp : ∀ g, fp β b' g → fp β b g) (h : BkOk ρ β w b') : Md ρ S w0 β0 n0 { s with hp := replHp b' s.hp } β a w := by
  have like : ∀ {x : Bk}, x ∈ replHp b' s.hp → ∃ y ∈ s.hp, y.l = x.l ∧ (x.real β → y.real β) ∧ (∀ g, fp β x g → fp β y g) ∧ (x.rw = true → y.rw = true) := fun {x} hx => by
    rcases repl_mem hx with rfl | ⟨hx, _⟩
    · exact ⟨b, hb, hl.symm, fun _ => hreal, hfp, hr⟩
    · exact ⟨x, hx, rfl, fun h => h, fun g h => h, fun h => h⟩
  refine ⟨hM.act, fun x hx => ?_, fun x hx y hy hxy rx ry g gx gy => ?_, fun x hx hw hr g hg => ?_, hM.cx, hM.only, hM.old⟩
  · rcases repl_mem hx with rfl | ⟨hx, _⟩
    · exact h
    · exact hM.hp x hx
  · obtain ⟨x', hx', ex, rx', fx, _⟩ := like hx
    obtain ⟨y', hy', ey, ry', fy, _⟩ := like hy
    exact hM.ne x' hx' y' hy' (by rw [ex, ey]; exact hxy) (rx' rx) (ry' ry) g (fx g gx) (fy g gy)
  · obtain ⟨x', hx', ex, rx', fx, wx⟩ := like hx
    exact hM.may x' hx' (wx hw) (rx' hr) g (fx g hg)
def stK (cs : List Value) : List Value := [.int .u32 (intAt cs 7), .int .u32 (intAt cs 8), .int .i64 (intAt cs 9), .int .i64 (intAt cs 10), .int .i64 (intAt cs 11), .bool (boolAt cs 12), .bool (boolAt cs 13), .int .i64 (intAt cs 14), .string (strAt cs 15)]
theorem stK_ok {cs : List Value} (h : leafAll stepLeaves cs) : kAll pkLv (stK cs) := by
  have ki : ∀ (n : Nat) (k : IntKind), stepLeaves[n]? = some (some (some k)) → kOK (.int k) (.int k (intAt cs n)) := fun n k hn => by
    obtain ⟨y, hy, hw⟩ := leaf_int h n hn
    have : intAt cs n = y := by unfold intAt; rw [hy]
    exact ⟨_, rfl, by rw [this]; exact hw⟩
  refine ⟨ki 7 .u32 rfl, ki 8 .u32 rfl, ki 9 .i64 rfl, ki 10 .i64 rfl, ki 11 .i64 rfl, ⟨_, rfl⟩, ⟨_, rfl⟩, ki 14 .i64 rfl, ?_, trivial⟩
  obtain ⟨y, hy, hw⟩ := leaf_str h 15 rfl
  have : strAt cs 15 = y := by unfold strAt; rw [hy]
  exact ⟨_, rfl, by rw [this]; exact hw⟩
section
variable {vs : Value} {len : Nat}
theorem lw_spO {ρ : Env} {p : List Value} {k m : Int} (h : LwJ vs len k m ρ) (K : LwK p ρ) : ∀ q ∈ lwSp, q.Ok Try.prog ρ := by
  intro q hq
  change q ∈ [_, _, _, _, _, _] at hq
  simp only [List.mem_cons, List.not_mem_nil, or_false] at hq
  rcases hq with rfl | rfl | rfl | rfl | rfl | rfl
  · exact ofSp_ok
  · exact tkSp_ok h.f h.o0
  · exact rtkSp_ok h.f h.o1
  · exact inSp_ok h.f h.o0 K
  · exact rinSp_ok h.f h.o1 K
  · exact opSp_ok h.o0
set_option maxRecDepth 100000 in
set_option maxHeartbeats 1000000 in
theorem lw_round (hl : len ≤ 549755813888) {ρ : Env} (hI : LwI vs len ρ) (hlt : ρ.i 0 < ρ.i 1) {cs : List Value} (hcs : leafAll stepLeaves cs) {w0 : World} {Q : Exit → Act → World → Prop} {u : Nat → Value} {β : Bn} {a : Act} {w : World}
    (hM : Md { ρ.hi 100 cs with u := u } (fun _ => False) w0 (fun _ => 0) 0 (lwX Try.prog Try.f3) β a w) : ctx Try.prog rowP (saysB Try.f3 lwP) (Exit.then (NextR (fun _ => False) w0 (fun _ => 0) 0 lwT (LwI vs len) saysMu (saysMu ρ)) Q) .normal a w := by
  have J := LwJ.hi hI cs u
  have i1 := hI.i1
  have i0 := hI.i0
  have hmu : saysMu ρ = ((len : Int) - ρ.i 0).toNat := by
    show (ρ.i 1 - ρ.i 0).toNat = _
    rw [i1]
  have K : LwK (stK cs) { ρ.hi 100 cs with u := u } := ⟨fun β => rfl, stK_ok hcs⟩
  have i100 : ({ ρ.hi 100 cs with u := u } : Env).i 100 = intAt cs 0 := rfl
  have i101 : ({ ρ.hi 100 cs with u := u } : Env).i 101 = intAt cs 1 := rfl
  have x0 := x_int hcs 0 rfl
  have x1 := x_int hcs 1 rfl
  have hlt' : ρ.i 0 < len := by omega
  rw [hmu]
  generalize ρ.i 0 = k at J i0 hlt' 
  generalize ({ ρ.hi 100 cs with u := u } : Env) = ρ1 at hM J K i100 i101
  have next : ∀ ρ', LwJ vs len k (k + 1) ρ' → ∀ β a w, Md ρ' (fun _ => False) w0 (fun _ => 0) 0 lwT β a w → (Sy.sub [1] (lwB Try.f3)).wp Try.prog (ctx Try.prog [1] (lwB Try.f3) (ctx Try.prog [1, 1, 0, 2] (saysB Try.f3 lwP) (Exit.then (NextR (fun _ => False) w0 (fun _ => 0) 0 lwT (LwI vs len) saysMu ((len : Int) - k).toNat) Q))) a w := fun ρ' J' β a w M => lw_tail hl J' hlt' M
  have hbs : ∀ (x y : Int), x ≤ intAt cs 0 % 6 → intAt cs 0 % 6 ≤ y → bdsP ρ1 (lwXb x y ++ lwBs) := fun x y hx hy => by
    refine ⟨?_, ?_, ?_, J.bs hl (by omega)⟩
    · show x ≤ ρ1.i 100 % 6 ∧ ρ1.i 100 % 6 ≤ y
      rw [i100]; exact ⟨hx, hy⟩
    · show _ ≤ ρ1.i 100 ∧ ρ1.i 100 ≤ _
      rw [i100]; exact x0
    · show _ ≤ ρ1.i 101 ∧ ρ1.i 101 ≤ _
      rw [i101]; exact x1
  obtain ⟨es, ho, hc, hx⟩ := J.es
  show (lwB Try.f3).wp Try.prog (ctx Try.prog [1, 1, 0, 2] (saysB Try.f3 lwP) _) a w
  by_cases h6 : intAt cs 0 % 6 = 0
  · refine part_preT (sp := lwSp) (p := [1]) (T := lwT) (r := lwOp Try.prog Try.f3 0 0) rfl lw_op0 (LwJ vs len k (k + 1)) (fun ρ' J' => cxP (J'.bs hl (by omega)) trivial) J.g (lw_spO J K) ⟨?_, trivial⟩ next (Go.Proofs.Ytnmfmjlpfhdgeaa.Md.cxTo hM ⟨lwXb 0 0 ++ lwBs, []⟩ (cxP (hbs 0 0 (by omega) (by omega)) trivial))
    intro _ β' u'
    refine ⟨J.g, J.v, J.f, J.o0, J.o1, J.k0, J.i0, J.le, J.i1, tkL es (ρ1.i 101), ho.tick _, f23 (t := .cv 0) (x := .iv 101) J.f ho hc, ?_⟩
    have := mx_tk es (ρ1.i 101)
    omega
  · refine part_preT (sp := lwSp) (p := [1]) (T := lwT) (r := lwOp Try.prog Try.f3 1 5) rfl lw_op1 (LwJ vs len k (k + 1)) (fun ρ' J' => cxP (J'.bs hl (by omega)) trivial) J.g (lw_spO J K) ⟨?_, trivial⟩ next (Go.Proofs.Ytnmfmjlpfhdgeaa.Md.cxTo hM ⟨lwXb 1 5 ++ lwBs, []⟩ (cxP (hbs 1 5 (by omega) (by omega)) trivial))
    intro _ β' u'
    refine ⟨J.g, J.v, J.f, J.o0, J.o1, J.k0, J.i0, J.le, J.i1, (inA' es (stK cs)).es, ho.inA K.ok, f21 (t := .cv 0) J.f K ho hc, ?_⟩
    have := mx_in es (stK cs)
    omega
end
set_option maxRecDepth 100000 in
set_option maxHeartbeats 2000000 in
theorem walk_fragSays (w : World) (a : Option Addr) (len cap : Nat) (o : Opened stepLeaves w a len cap) (hl : len ≤ 549755813888) :
    Calls Try.prog 3 #[.slice a len cap] w fun e w' => e = .returned (.bool true) ∧ Below w.heap.size w w' := by
  obtain ⟨C, _, hC0⟩ := came_of o
  have hC : ∀ i, i < len → ∃ b off cap', Value.slice a len cap = .slice (some ⟨b, off, none⟩) len cap' ∧ leafAll stepLeaves (C i) ∧ w.rangeAt b (off + i * 45) (C i) := by
    rcases hC0 with rfl | ⟨b, off, rfl, _, hC⟩
    · intro i hi
      omega
    · exact fun i hi => ⟨b, off, cap, rfl, (hC i hi).1, (hC i hi).2⟩
  let ρ0 : Env := { mkEnv0 [0, (len : Int)] [] [] [.slice a len cap] with f := lwF, o := fun k => if k = 0 then frT else rfT }
  have hg0 : ρ0.good := fun i => by
    rcases i with _ | i
    · rfl
    · rfl
  have hM0 : Md ρ0 (fun _ => False) w (fun _ => 0) 0 lwSt0 (fun _ => 0) ⟨#[], []⟩ w := Sy.Md.init trivial trivial trivial (cxP trivial trivial) rfl
  have h24 : (den ρ0 (.ap 24 (.il 0) (.il (-1)) (.il 0))).i = 1 := (f24 (ρ := ρ0) rfl (.il (-1))).trans (show tkE (-1) = 1 by decide)
  refine (calls_pre (B := ⟨ρ0, fun _ => False, w, fun _ => 0, 0⟩) (sp := [nwSp, tkSp]) (p := lwP) (xs := lwA) (s := lwSt0) (r := lwPre Try.prog Try.f3) hg0 (fun q hq => by
    simp only [List.mem_cons, List.not_mem_nil, or_false] at hq
    rcases hq with rfl | rfl
    · exact nwSp_ok rfl
    · exact tkSp_ok rfl rfl) rfl Try.func3 rfl rfl lw_pre hM0 (R := fun v w' => v = .bool true ∧ Below w.heap.size w w') ⟨?_, ?_, trivial⟩ rfl).mono ?_
  · intro hpc β a1 w1 hM1
    exfalso
    have q := hpc.1
    rw [t_not, t_eq] at q
    exact q h24
  · intro hpc β a1 w1 hM1
    obtain ⟨fr1, fr2⟩ := Prod.mk.inj lw_free
    obtain ⟨tm1, tm2⟩ := Prod.mk.inj lw_tm
    have M1 := Sy.Md.letter hM1 6 (bitsOf [β 2]) 0 (Nat.zero_le _) fr1 fr2
    obtain ⟨β1, hβ1⟩ : ∃ x, upd (upd β 6 (bitsOf [β 2])) (6 + 1) 0 = x := ⟨_, rfl⟩
    rw [hβ1] at M1
    have e6 : β1 6 = bitsOf [β 2] := by rw [← hβ1, upd_old (by decide), upd_new]
    have e2 : β1 2 = β 2 := by rw [← hβ1, upd_old (by decide), upd_old (by decide)]
    have hp1 := lw_hp0
    have mU : (⟨2, 28, [.nslc], true, none, .no⟩ : Bk) ∈ (lfAt (lwPre Try.prog Try.f3) 1).hp := by rw [hp1]; exact List.mem_cons_self ..
    have BU : Blk w1 (β1 2) 28 [.slice none 0 0] := M1.hp _ mU
    have M2 := Go.Proofs.Ytnmfmjlpfhdgeaa.Md.reFp M1 (b := ⟨2, 28, [.nslc], true, none, .no⟩) (b' := ownB 2 6 1 28 tn) mU rfl (fun _ => rfl) (.inl rfl) (fun g hg => by
      rcases hg with q | ⟨_, q⟩
      · exact .inl q
      · change (β1 6).testBit g = true at q
        rw [e6, bitsOf_test, List.mem_singleton] at q
        exact .inl (q.trans e2.symm)) (by
      show rfT.P w1 (β1 2) (fun i => (β1 6).testBit i = true) []
      refine ⟨0, 0, [], [], ⟨BU, RowT.none_ w1 0 64 rLv, rfl, fun i hi => by simp at hi⟩, FOk.nil, rfl, fun i => ?_⟩
      show (β1 6).testBit i = true ↔ i ∈ rfF (β1 2) 0 0 []
      rw [e6, bitsOf_test, e2]
      exact Iff.rfl)
    have M3 := Sy.Md.repl M2 (b := ownB 0 4 0 53 (.ap 23 tn (.il (-1)) (.il 0))) (nb := ownB 0 4 0 53 tn) (by
      show _ ∈ replHp (ownB 2 6 1 28 tn) (lfAt (lwPre Try.prog Try.f3) 1).hp
      rw [hp1]
      exact List.mem_cons_of_mem _ (List.mem_cons_self ..)) rfl (fun h => h) (fun h => h) M2.only (by
      have h1 : frT.P w1 (β1 0) (bitF β1 [.ptr 4 0]) (den ρ0 (.ap 23 tn (.il (-1)) (.il 0))).c := M1.hp (ownB 0 4 0 53 (.ap 23 tn (.il (-1)) (.il 0))) (by rw [hp1]; exact List.mem_cons_of_mem _ (List.mem_cons_self ..))
      have e : (den ρ0 (.ap 23 tn (.il (-1)) (.il 0))).c = [] := (f23 (ρ := ρ0) rfl FOk.nil rfl).trans rfl
      rw [e] at h1
      exact h1) (fun x hx _ => M2.hp x hx)
    have M4 : Md ρ0 (fun _ => False) w (fun _ => 0) 0 (lwS Try.prog Try.f3) β1 a1 w1 := by
      have : ({ ({ lfAt (lwPre Try.prog Try.f3) 1 with hp := replHp (ownB 2 6 1 28 tn) (lfAt (lwPre Try.prog Try.f3) 1).hp } : Sy.St) with hp := replHp (ownB 0 4 0 53 tn) ({ lfAt (lwPre Try.prog Try.f3) 1 with hp := replHp (ownB 2 6 1 28 tn) (lfAt (lwPre Try.prog Try.f3) 1).hp } : Sy.St).hp } : Sy.St) = lwS Try.prog Try.f3 := by
        show ({ lfAt (lwPre Try.prog Try.f3) 1 with hp := replHp (ownB 0 4 0 53 tn) (replHp (ownB 2 6 1 28 tn) (lfAt (lwPre Try.prog Try.f3) 1).hp) } : Sy.St) = { lfAt (lwPre Try.prog Try.f3) 1 with hp := lwHp tn }
        rw [hp1]
        rfl
      rw [← this]
      exact M3
    refine says_loop lw_code (a0 := a) (cap := cap) (I := LwI (.slice a len cap) len) (fun g _ h => h) hC (fun ρ h => ⟨h.g, h.v, h.i0, (by have := h.le; have := h.i1; omega), h.i1⟩) ?_ ?_ (show ρ0.v 0 = .slice a len cap from rfl) (show ρ0.i 1 = (len : Int) from rfl) tm1 tm2 lw_okP ?_ M4
    · intro ρ hI hlt cs hcs u β a w1 hM Q
      exact lw_round hl hI hlt hcs hM
    · intro ρ hI he β a w1 hM
      refine part_aft (B := ⟨ρ, fun _ => False, w, fun _ => 0, 0⟩) (sp := []) hI.g (fun q hq => by cases hq) rfl .normal (p := lwP ++ [1]) (r := lwEnd Try.prog Try.f3) rfl lw_end ⟨?_, trivial⟩ hM
      intro _ β2 a2 w2 M
      exact ret_post (B := ⟨ρ, fun _ => False, w, fun _ => 0, 0⟩) M (retsB_ok lw_ret rfl) ⟨rfl, Sy.Only.below_all M.only⟩
    · intro β ac w1 hM
      have hI0 : ∀ u, LwI (.slice a len cap) len { ρ0.sub β [.i 0 (.il 0), .c 0 tn, .c 0 tn] with u := u } := fun u => ⟨hg0, rfl, rfl, rfl, rfl, rfl, Int.le_refl 0, (by show (0 : Int) ≤ (len : Int); omega), rfl, [], FOk.nil, rfl, Int.le_refl 0⟩
      obtain ⟨u, β', hM5⟩ := Sy.Md.enter hM lw_in fun u => cxP ((hI0 u).bs hl (hI0 u).le) trivial
      exact ⟨_, β', hI0 u, hM5⟩
  · rintro e w' ⟨v, rfl, rfl, hb⟩
    exact ⟨rfl, hb⟩
end Go.Proofs.Ytnmfmjlpfhdgeaa
