/- Maps: look-ups, lengths, stores, deletions, new maps, in letters. -/
import Derived.Test.YtnmfmjlpfhdgeaaSyMq
namespace Go.Proofs.Ytnmfmjlpfhdgeaa
namespace Sy
open Go Go.RowKit
set_option linter.unusedVariables false
set_option linter.unusedSimpArgs false

theorem fM_lt {n : Nat} {k : List Value} : ∀ {l : List (List Value)} {j : Nat}, fM n k l = some j → j < l.length ∧ sqR ((l.getD j []).take n) k = true
  | [], j, h => by cases h
  | r :: l, j, h => by
    rw [fM] at h
    split at h
    · rename_i q
      injection h with h
      subst h
      exact ⟨Nat.succ_pos _, q⟩
    · obtain ⟨i, hi, e⟩ := Option.map_eq_some_iff.1 h
      subst e
      obtain ⟨h1, h2⟩ := fM_lt hi
      exact ⟨Nat.succ_lt_succ h1, h2⟩
theorem fM_none {n : Nat} {k : List Value} : ∀ {l : List (List Value)}, fM n k l = none → ∀ r ∈ l, sqR (r.take n) k = false
  | [], _, r, hr => by cases hr
  | x :: l, h, r, hr => by
    rw [fM] at h
    split at h
    · cases h
    · rename_i q
      rcases List.mem_cons.1 hr with e | hr
      · rw [e]; exact Bool.eq_false_iff.2 q
      · exact fM_none (Option.map_eq_none_iff.1 h) r hr
theorem getD_some {α : Type} {l : List α} {i : Nat} {d : α} (h : i < l.length) : l[i]? = some (l.getD i d) := by
  rw [List.getD, List.getElem?_eq_getElem h]
  rfl
theorem sqV_refl' (v : Value) : sqV v v = true := by
  cases v with
  | int k n => simp [sqV, sqI_iff]
  | bool b => simp [sqV]
  | string s => simp [sqV]
  | pointer a => cases a <;> simp [sqV]
  | slice a n c => simp [sqV]
  | _ => rfl
theorem sqR_refl' : ∀ r : List Value, sqR r r = true
  | [] => rfl
  | v :: r => by simp [sqR, sqV_refl' v, sqR_refl' r]
/-- The map behind a letter. -/
def mapFind (hp : List Bk) (l : Nat) : Option (Bk × List Kd × Bool × Kd × Tm) :=
  match find l hp with
  | some b => match b.str, b.x with
    | none, .mp ks ag v t => some (b, ks, ag, v, t)
    | _, _ => none
  | none => none
theorem mapFind_ok {hp : List Bk} {l : Nat} {b : Bk} {ks : List Kd} {ag : Bool} {v : Kd} {t : Tm} (h : mapFind hp l = some (b, ks, ag, v, t)) : b ∈ hp ∧ b.l = l ∧ b.str = none ∧ b.x = .mp ks ag v t := by
  unfold mapFind at h
  split at h
  · rename_i b' hf
    split at h
    · rename_i hs hx
      injection h with h
      injection h with e1 h
      injection h with e2 h
      injection h with e3 h
      injection h with e4 e5
      subst e1 e2 e3 e4 e5
      obtain ⟨hm, hl⟩ := find_mem hf
      exact ⟨hm, hl, hs, hx⟩
    · cases h
  · cases h
theorem BkOk.map {ρ : Env} {β : Bn} {w : World} {b : Bk} (h : BkOk ρ β w b) {ks : List Kd} {ag : Bool} {v : Kd} {t : Tm} (hs : b.str = none) (hx : b.x = .mp ks ag v t) : MapT w (β b.l) ks ag v (den ρ t).c := by
  unfold BkOk at h
  rw [hs] at h
  simp only [hx] at h
  exact h
def keyCs (ag : Bool) : SV → Option (List C)
  | .one (.agg l) => if ag then some l else none
  | .one (.c x) => if ag then none else some [x]
  | _ => none
theorem keyCs_den {ρ : Env} {β : Bn} {ag : Bool} {x : SV} {cs : List C} (h : keyCs ag x = some cs) : x.den ρ β = keyV ag (denL ρ β cs) := by
  unfold keyCs at h
  split at h
  · split at h
    · rename_i q
      injection h with h
      subst h
      rw [q]
      rfl
    · cases h
  · split at h
    · cases h
    · rename_i q
      injection h with h
      subst h
      rw [Bool.eq_false_iff.2 q]
      rfl
  · cases h
def zero1 (P : Program) (e : TypeId) : Option C :=
  match P.info? e with
  | some i => match i.zero with
    | some z => ofC z
    | none => none
  | none => none
theorem zero1_ok {ρ : Env} {β : Bn} {P : Program} {e : TypeId} {x : C} (h : zero1 P e = some x) (w : World) : (zeroValue e).run P w = .ok (x.den ρ β) w := by
  unfold zero1 at h
  split at h
  · rename_i i hi
    split at h
    · rename_i z hz
      rw [ofC_ok (ρ := ρ) (β := β) h]
      simp only [zeroValue, typeInfo, Sem.run_bind, run_program, Result.andThen_ok, hi, hz, Sem.run_pure]
    · cases h
  · cases h
/-- What a look-up gives where there is nothing. -/
def zeroM : Kd → Option C
  | .ptr => some .nptr
  | k => zeroC k
/-- Is it the type of such maps? -/
def mapOk (P : Program) (t : TypeId) (ks : List Kd) (ag : Bool) (v : Kd) : Bool :=
  match P.underlying t with
  | some (.map kt et) => keyOk P kt ks ag && (Nat.ble ks.length 100 && ((!ks.any fun k => sameK k .ptr || sameK k .sls) && (match zeroM v, zero1 P et with
    | some z, some y => sameC z y
    | _, _ => false)))
  | _ => false
theorem mapOk_ok {P : Program} {t : TypeId} {ks : List Kd} {ag : Bool} {v : Kd} (h : mapOk P t ks ag v = true) : ∃ kt et z, P.underlying t = some (.map kt et) ∧ keyOk P kt ks ag = true ∧ ks.length ≤ 100 ∧ (∀ k ∈ ks, k ≠ .ptr ∧ k ≠ .sls) ∧ zeroM v = some z ∧ zero1 P et = some z := by
  unfold mapOk at h
  split at h
  · rename_i kt et hu
    simp only [Bool.and_eq_true] at h
    obtain ⟨h1, h2, h4, h3⟩ := h
    split at h3
    · rename_i z y hz hy
      have := sameC_eq h3
      subst this
      refine ⟨kt, et, z, hu, h1, Nat.le_of_ble_eq_true h2, ?_, hz, hy⟩
      intro k hk
      constructor <;> intro e <;> subst e
      · have : (ks.any fun k => sameK k .ptr || sameK k .sls) = true := List.any_eq_true.2 ⟨_, hk, rfl⟩
        rw [this] at h4
        cases h4
      · have : (ks.any fun k => sameK k .ptr || sameK k .sls) = true := List.any_eq_true.2 ⟨_, hk, rfl⟩
        rw [this] at h4
        cases h4
    · cases h3
  · cases h
def mapIx (n : Nat) (t r : Tm) : Tm := .tb (.mix n) t r (.il 0)
theorem mapIx_den {ρ : Env} {n : Nat} {t r : Tm} {k : List Value} (h : (den ρ r).c = [k]) : (den ρ (mapIx n t r)).i = mIx n k (den ρ t).c := by
  show mIx n ((den ρ r).c.headD []) (den ρ t).c = _
  rw [h]
  rfl
def pickC0 (q : Tm) : C → C → Option C
  | .int k x, .int l y => if Nat.beq (kNo k) (kNo l) then some (.int k (mkIte q x y)) else none
  | .bool x, .bool y => some (.bool (mkIte q x y))
  | .str x, .str y => some (.str (mkIte q x y))
  | _, _ => none
theorem pickC0_ok {ρ : Env} {β : Bn} {q : Tm} {x y r : C} (h : pickC0 q x y = some r) : r.den ρ β = if (den ρ q).b then x.den ρ β else y.den ρ β := by
  unfold pickC0 at h
  split at h
  · split at h
    · rename_i k a l b e
      have e := kNo_inj (Nat.eq_of_beq_eq_true e)
      injection h with h
      subst h e
      show Value.int k (den ρ (mkIte q a b)).i = _
      rw [mkIte_i]
      cases (den ρ q).b <;> rfl
    · cases h
  · rename_i a b
    injection h with h
    subst h
    show Value.bool (den ρ (mkIte q a b)).b = _
    rw [mkIte_b]
    cases (den ρ q).b <;> rfl
  · rename_i a b
    injection h with h
    subst h
    show Value.string (den ρ (mkIte q a b)).s = _
    rw [mkIte_s]
    cases (den ρ q).b <;> rfl
  · cases h
def pickC (q : Tm) (x y : C) : Option C :=
  match isB q with
  | some true => some x
  | some false => some y
  | none => pickC0 q x y
theorem pickC_ok {ρ : Env} {β : Bn} {q : Tm} {x y r : C} (h : pickC q x y = some r) : r.den ρ β = if (den ρ q).b then x.den ρ β else y.den ρ β := by
  unfold pickC at h
  split at h
  · rename_i e
    injection h with h
    rw [isB_eq e, ← h]
    rfl
  · rename_i e
    injection h with h
    rw [isB_eq e, ← h]
    rfl
  · exact pickC0_ok h
def lookS (P : Program) (c : Cx) (hp : List Bk) (t : TypeId) (x k : SV) (ck : Bool) : PR :=
  match x with
  | .one (.c (.map l)) => match mapFind hp l with
    | some (_, ks, ag, v, tt) => match keyCs ag k, zeroM v with
      | some cs, some z => match rowTm c cs ks with
        | some (m, r) => if mapOk P t ks ag v then
            (pickC (mkB c (.le (.il 0) (mapIx ks.length tt r))) (cellT c tt (mapIx ks.length tt r) v ks.length) z).map fun val => (m, if ck then .tup [.c val, .c (.bool (mkB c (.le (.il 0) (mapIx ks.length tt r))))] else .one (.c val))
          else none
        | none => none
      | _, _ => none
    | none => none
  | _ => none
theorem run_lookup {P : Program} {w : World} {t kt et : TypeId} {ks : List Kd} {ag ck : Bool} {v : Kd} {g : Nat} {L : List (List Value)} {k : List Value} {z : Value} (hu : P.underlying t = some (.map kt et)) (h : keyOk P kt ks ag = true) (hl : ks.length ≤ 100) (hM : MapT w g ks ag v L) (hk : kAll ks k) (hz : ∀ w, (zeroValue et).run P w = .ok z w) :
    (Instr.lookup t (.map (some g)) (keyV ag k) ck).run P w = .ok (match fM ks.length k L with
      | some j => if ck then .tuple #[(L.getD j []).getD ks.length (.bool false), .bool true] else (L.getD j []).getD ks.length (.bool false)
      | none => if ck then .tuple #[z, .bool false] else z) w := by
  obtain ⟨es, clock, ho, he, hst⟩ := hM.obj
  have hfind := find_key h hl hk w he hM.ok
  simp only [Instr.lookup, Sem.run_bind, run_underlying hu, Result.andThen_ok, Go.MapKept.run_getObj_map ho, key_check h hk, hfind, Sem.run_pure]
  unfold fndV
  cases fM ks.length k L with
  | none =>
    simp only [Option.map_none, hz, Sem.run_bind, Result.andThen_ok, Sem.run_pure]
  | some j =>
    simp only [Option.map_some, Sem.run_bind, Result.andThen_ok, Sem.run_pure]
theorem lookS_ok {ρ : Env} {β : Bn} {P : Program} {c : Cx} (hc : c.ok ρ) {hp : List Bk} {w : World} (hb : ∀ b ∈ hp, BkOk ρ β w b) {t : TypeId} {x k : SV} {ck : Bool} {m : List Tm} {r : SV}
    (h : lookS P c hp t x k ck = some (m, r)) (hm : Met ρ m) : (Instr.lookup t (x.den ρ β) (k.den ρ β) ck).run P w = .ok (r.den ρ β) w := by
  unfold lookS at h
  split at h
  · rename_i l
    split at h
    · rename_i b ks ag v tt hf
      obtain ⟨hbm, hbl, hs, hx⟩ := mapFind_ok hf
      have hM := (hb _ hbm).map hs hx
      rw [hbl] at hM
      split at h
      · rename_i cs z hks hz
        split at h
        · rename_i m' rt hrow
          split at h
          · rename_i q
            obtain ⟨kt, et, z', hu, hko, hl, _, hz', hz1⟩ := mapOk_ok q
            rw [hz] at hz'
            injection hz' with hz'
            subst hz'
            obtain ⟨val, hval, e⟩ := Option.map_eq_some_iff.1 h
            injection e with e1 e2
            subst e1 e2
            obtain ⟨hr1, hr2⟩ := rowTm_ok (β := β) hc hrow hm
            rw [keyCs_den hks]
            show (Instr.lookup t (.map (some (β l))) _ ck).run P w = _
            rw [run_lookup hu hko hl hM hr2 (fun w => zero1_ok (ρ := ρ) (β := β) hz1 w)]
            have hv := pickC_ok (ρ := ρ) (β := β) hval
            have hq : (den ρ (mkB c (.le (.il 0) (mapIx ks.length tt rt)))).b = decide ((0 : Int) ≤ mIx ks.length (denL ρ β cs) (den ρ tt).c) := by
              rw [mkB_ok hc]
              show decide ((0 : Int) ≤ (den ρ (mapIx ks.length tt rt)).i) = _
              rw [mapIx_den hr1]
            rw [hq] at hv
            unfold mIx at hv hq
            cases hfm : fM ks.length (denL ρ β cs) (den ρ tt).c with
            | none =>
              rw [hfm] at hv hq
              rw [if_neg (by simp)] at hv
              congr 1
              cases ck
              · exact hv.symm
              · show Value.tuple #[_, _] = Value.tuple #[val.den ρ β, .bool _]
                rw [hv, hq]
                rfl
            | some j =>
              rw [hfm] at hv hq
              rw [if_pos (by simp)] at hv
              obtain ⟨hj, _⟩ := fM_lt hfm
              have hrow2 := hM.ok _ (getD_mem hj)
              have hcell := (kAll_cut hrow2).2
              have hix : (den ρ (mapIx ks.length tt rt)).i.toNat = j := by
                rw [mapIx_den hr1]
                unfold mIx
                rw [hfm]
                exact Int.toNat_natCast j
              have hlen := kAll_len hrow2
              rw [cellT_ok (v := ((den ρ tt).c.getD j []).getD ks.length (.bool false)) hc (by
                rw [hix]
                exact getD_some (by rw [hlen]; simp)) hcell] at hv
              congr 1
              cases ck
              · exact hv.symm
              · show Value.tuple #[_, _] = Value.tuple #[val.den ρ β, .bool _]
                rw [hv, hq]
                simp
          · cases h
        · cases h
      · cases h
    · cases h
  · cases h
def mapLenS (P : Program) (c : Cx) (hp : List Bk) (t : TypeId) (l : Nat) : PR :=
  match mapFind hp l, P.underlying t with
  | some (_, ks, ag, v, tt), some (.map _ _) => sI [] .i64 (mkTL c tt)
  | _, _ => none
theorem mapLenS_ok {ρ : Env} {β : Bn} {P : Program} {c : Cx} (hc : c.ok ρ) {hp : List Bk} {w : World} (hb : ∀ b ∈ hp, BkOk ρ β w b) {t ty : TypeId} {l : Nat} {m : List Tm} {r : SV}
    (h : mapLenS P c hp t l = some (m, r)) : (Builtin.len_ #[t] ty #[C.den ρ β (.map l)]).run P w = .ok (r.den ρ β) w := by
  unfold mapLenS at h
  split at h
  · rename_i b ks ag v tt k e hf hu
    obtain ⟨hbm, hbl, hs, hx⟩ := mapFind_ok hf
    have hM := (hb _ hbm).map hs hx
    rw [hbl] at hM
    injection h with h
    injection h with h1 h2
    subst h1 h2
    obtain ⟨es, clock, ho, he, _⟩ := hM.obj
    have hlen : es.size = (den ρ tt).c.length := by
      have := congrArg List.length he
      simpa using this
    show (Builtin.len_ #[t] ty #[.map (some (β l))]).run P w = _
    simp only [Builtin.len_, List.getElem?_toArray, List.getElem?_cons_zero, Sem.run_bind, run_underlying hu, Result.andThen_ok, Sem.run_pure, Go.MapKept.run_getObj_map ho]
    refine res_int ?_
    rw [mkTL_ok hc, hlen]
  · cases h
def memM (P : Program) (c : Cx) (hp : List Bk) (ev : Operand → Option SV) : Op → PR
  | .lookup t x k ck => match ev x, ev k with
    | some x, some k => lookS P c hp t x k ck
    | _, _ => none
  | .call k => match k.callee, k.args.toList, k.argTypes.toList with
    | .builtin .len, [x], [t] => match ev x with
      | some (.one (.c (.map l))) => mapLenS P c hp t l
      | _ => none
    | _, _, _ => none
  | _ => none
theorem memM_ok {ρ : Env} {β : Bn} {P : Program} {c : Cx} (hc : c.ok ρ) {hp : List Bk} {w : World} (hb : ∀ b ∈ hp, BkOk ρ β w b) {ev : Operand → Option SV} {a : Act} (hev : ∀ x v, ev x = some v → a.eval x = v.den ρ β) {o : Oper} {m : List Tm} {r : SV}
    (h : memM P c hp ev o.op = some (m, r)) (hm : Met ρ m) : (execOp a.eval o).run P w = .ok (.value (r.den ρ β)) w := by
  unfold execOp
  unfold memM at h
  split at h
  · rename_i t x k ck ho
    rw [ho]
    split at h
    · rename_i x' k' hx hk
      have := lookS_ok (β := β) hc hb h hm
      simp only [hev _ _ hx, hev _ _ hk]
      exact run_v this
    · cases h
  · rename_i k ho
    rw [ho]
    split at h
    · rename_i x t hcal hargs hats
      split at h
      · rename_i l hx
        have e1 : k = ⟨.builtin .len, #[x], #[t]⟩ := by
          obtain ⟨a, b, d⟩ := k
          simp only at hcal hargs hats
          subst hcal
          congr 1
          · rw [← hargs]
          · rw [← hats]
        have := mapLenS_ok (β := β) (ty := o.type) hc hb h
        subst e1
        simp only [resolve, invoke, builtin, Sem.run_bind, Sem.run_pure, Result.andThen_ok, List.map_toArray, List.map_cons, List.map_nil, hev _ _ hx]
        change (Builtin.len_ #[t] o.type #[SV.den ρ β (.one (.c (.map l)))]).run P w = _ at this
        rw [this]
        rfl
      · cases h
    · cases h
  · cases h
def memB (P : Program) (c : Cx) (hp : List Bk) (ev : Operand → Option SV) (o : Op) : PR :=
  match memA P c hp ev o with
  | some r => some r
  | none => memM P c hp ev o
theorem memB_ok {ρ : Env} {β : Bn} {P : Program} {c : Cx} (hc : c.ok ρ) {hp : List Bk} {w : World} (hb : ∀ b ∈ hp, BkOk ρ β w b) {ev : Operand → Option SV} {a : Act} (hev : ∀ x v, ev x = some v → a.eval x = v.den ρ β) {o : Oper} {m : List Tm} {r : SV}
    (h : memB P c hp ev o.op = some (m, r)) (hm : Met ρ m) : (execOp a.eval o).run P w = .ok (.value (r.den ρ β)) w := by
  unfold memB at h
  split at h
  · rename_i r' hr
    injection h with h
    subst h
    exact memA_ok hc hb hev hr hm
  · exact memM_ok hc hb hev h hm

/-! Stores. -/
theorem sameBits_key {ks : List Kd} (hp : ∀ k ∈ ks, k ≠ .ptr ∧ k ≠ .sls) {k : List Value} (hk : kAll ks k) (ag : Bool) (h1 : ag = false → ks.length = 1) : Instr.sameBits 10000 (keyV ag k) (keyV ag k) = true := by
  have all : ∀ (ks : List Kd) (k : List Value), (∀ q ∈ ks, q ≠ .ptr ∧ q ≠ .sls) → kAll ks k → ∀ n, ((k.zip k).all fun (x, y) => Instr.sameBits n x y) = true := by
    intro ks
    induction ks with
    | nil => intro k _ h n; cases k with | nil => rfl | cons _ _ => exact h.elim
    | cons q ks ih =>
      intro k hp h n
      cases k with
      | nil => exact h.elim
      | cons v k =>
        simp only [List.zip_cons_cons, List.all_cons, Bool.and_eq_true]
        exact ⟨sameBits_cell h.1 (hp q (List.mem_cons_self ..)) n, ih k (fun q hq => hp q (List.mem_cons_of_mem _ hq)) h.2 n⟩
  cases ag with
  | true =>
    show Instr.sameBits (9999 + 1) (.agg k.toArray) (.agg k.toArray) = true
    unfold Instr.sameBits
    rw [Bool.and_eq_true]
    exact ⟨beq_self_eq_true _, all ks k hp hk 9999⟩
  | false =>
    match ks, k, h1 rfl, hk with
    | [q], [v], _, hk => exact sameBits_cell hk.1 (hp q (List.mem_cons_self ..)) _
theorem keyOk_one {P : Program} {kt : TypeId} {ks : List Kd} (h : keyOk P kt ks false = true) : ks.length = 1 := by
  match ks, h with
  | [], h => cases h
  | [_], _ => rfl
  | _ :: _ :: _, h => simp [keyOk] at h
theorem ent_key (ag : Bool) (n : Nat) (r : List Value) (hn : ag = false → 0 < n) : (entOf ag n r).1 = keyV ag (r.take n) := by
  unfold entOf keyV
  cases ag with
  | true => rfl
  | false =>
    have := hn rfl
    cases r with
    | nil => simp
    | cons v r =>
      cases n with
      | zero => omega
      | succ n => rfl
theorem keyV_inj {ag : Bool} {ks : List Kd} (h1 : ag = false → ks.length = 1) {r q : List Value} (hr : kAll ks r) (hq : kAll ks q) (h : keyV ag r = keyV ag q) : r = q := by
  cases ag with
  | true =>
    unfold keyV at h
    simp only [if_true, Value.agg.injEq] at h
    have := congrArg Array.toList h
    simpa using this
  | false =>
    match ks, r, q, h1 rfl, hr, hq with
    | [_], [v], [u], _, _, _ => rw [show v = u from h]
theorem take_len {ks : List Kd} {v : Kd} {r : List Value} (h : kAll (ks ++ [v]) r) : r = r.take ks.length ++ [r.getD ks.length (.bool false)] := by
  have hl := kAll_len h
  rw [List.length_append] at hl
  have e := getD_some (l := r) (i := ks.length) (d := .bool false) (by rw [hl]; simp)
  have : r.take (ks.length + 1) = r.take ks.length ++ [r.getD ks.length (.bool false)] := by
    rw [List.take_add_one, e]
    rfl
  rw [← this, List.take_of_length_le (by rw [hl]; simp)]
theorem kAll_app {ks : List Kd} {v : Kd} : ∀ {k : List Value} {u : Value}, kAll ks k → kOK v u → kAll (ks ++ [v]) (k ++ [u]) := by
  induction ks with
  | nil => intro k u h hu; cases k with | nil => exact ⟨hu, trivial⟩ | cons _ _ => exact h.elim
  | cons q ks ih => intro k u h hu; cases k with | nil => exact h.elim | cons x k => exact ⟨h.1, ih h.2 hu⟩
theorem MapT.find {P : Program} {kt : TypeId} {ks : List Kd} {ag : Bool} {v : Kd} {k : List Value} {es : List MapEntry} {L : List (List Value)} (h : keyOk P kt ks ag = true) (he : es.map (fun e => (e.key, e.val)) = L.map (entOf ag ks.length)) (hr : ∀ r ∈ L, kAll (ks ++ [v]) r) (hk : kAll ks k) {j : Nat} (hj : fM ks.length k L = some j) :
    ∃ e, es[j]? = some e ∧ e.key = keyV ag k := by
  obtain ⟨h1, h2⟩ := fM_lt hj
  have hlen : es.length = L.length := by simpa using congrArg List.length he
  refine ⟨es[j], List.getElem?_eq_getElem (by omega), ?_⟩
  have h3 := congrArg (fun l => l[j]?) he
  simp only [List.getElem?_map, List.getElem?_eq_getElem (show j < es.length from by omega), List.getElem?_eq_getElem h1, Option.map_some, Option.some.injEq] at h3
  have h4 : es[j].key = (entOf ag ks.length L[j]).1 := congrArg Prod.fst h3
  have hm : L[j] ∈ L := List.getElem_mem h1
  have hz : ag = false → 0 < ks.length := fun e => by subst e; rw [keyOk_one h]; exact Nat.one_pos
  rw [ent_key _ _ _ hz] at h4
  rw [h4]
  rw [show L.getD j [] = L[j] from by rw [List.getD, List.getElem?_eq_getElem h1]; rfl] at h2
  rw [(sqR_iff (kAll_cut (hr _ hm)).1 hk).1 h2]
theorem MapT.miss {P : Program} {kt : TypeId} {ks : List Kd} {ag : Bool} {v : Kd} {k : List Value} {es : List MapEntry} {L : List (List Value)} (h : keyOk P kt ks ag = true) (he : es.map (fun e => (e.key, e.val)) = L.map (entOf ag ks.length)) (hr : ∀ r ∈ L, kAll (ks ++ [v]) r) (hk : kAll ks k) (hj : fM ks.length k L = none) :
    ∀ x ∈ es, x.key ≠ keyV ag k := by
  intro x hx e
  have hz : ag = false → 0 < ks.length := fun e => by subst e; rw [keyOk_one h]; exact Nat.one_pos
  have : (x.key, x.val) ∈ L.map (entOf ag ks.length) := he ▸ List.mem_map.2 ⟨x, hx, rfl⟩
  obtain ⟨r, hr', e'⟩ := List.mem_map.1 this
  have e1 : (entOf ag ks.length r).1 = x.key := congrArg Prod.fst e'
  rw [ent_key _ _ _ hz, e] at e1
  have hk' := (kAll_cut (hr r hr')).1
  have e2 := keyV_inj (fun q => by subst q; exact keyOk_one h) hk' hk e1
  have := fM_none hj r hr'
  rw [e2, sqR_refl' ] at this
  cases this
theorem run_mapUpdate {P : Program} {w : World} {t kt et : TypeId} {ks : List Kd} {ag : Bool} {v : Kd} {g : Nat} {L : List (List Value)} {k : List Value} {u : Value} (hu : P.underlying t = some (.map kt et)) (h : keyOk P kt ks ag = true) (hp : ∀ q ∈ ks, q ≠ .ptr ∧ q ≠ .sls) (hl : ks.length ≤ 100) (hM : MapT w g ks ag v L) (hk : kAll ks k) (hv : kOK v u) :
    ∃ o, (Instr.mapUpdate t (.map (some g)) (keyV ag k) u).run P w = .ok () { w with heap := w.heap.setIfInBounds g o } ∧ MapT { w with heap := w.heap.setIfInBounds g o } g ks ag v (mPut ks.length (k ++ [u]) L) := by
  obtain ⟨es, clock, ho, he, hst⟩ := hM.obj
  have hfind := find_key h hl hk w he hM.ok
  have hlt : g < w.heap.size := (Array.getElem?_eq_some_iff.1 ho).1
  have hkl := kAll_len hk
  have hrow := kAll_app hk hv
  have htk : (k ++ [u]).take ks.length = k := by rw [← hkl]; simp
  have hen : entOf ag ks.length (k ++ [u]) = (keyV ag k, u) := by
    have hz : ag = false → 0 < ks.length := fun e => by subst e; rw [keyOk_one h]; exact Nat.one_pos
    refine Prod.ext ?_ ?_
    · rw [ent_key _ _ _ hz, htk]
    · show (k ++ [u]).getD ks.length (.bool false) = u
      rw [← hkl]
      simp
  unfold mPut
  rw [htk]
  simp only [Instr.mapUpdate, Sem.run_bind, run_underlying hu, Result.andThen_ok, Go.MapKept.run_getObj_map ho, key_check h hk, hfind, Sem.run_pure]
  unfold fndV
  cases hfm : fM ks.length k L with
  | none =>
    simp only [Option.map_none]
    refine ⟨.map (es.push { key := keyV ag k, val := u, born := clock }) (clock + 1), Go.MapKept.run_setObj_map _ ho, ⟨es.push { key := keyV ag k, val := u, born := clock }, clock + 1, by simp [hlt], ?_, Go.MapKept.stamped_push hst (MapT.miss h he hM.ok hk hfm)⟩, ?_⟩
    · rw [Array.toList_push, List.map_append, List.map_append, he, List.map_cons, List.map_nil, List.map_cons, List.map_nil, hen]
    · intro r hr
      rcases List.mem_append.1 hr with hr | hr
      · exact hM.ok r hr
      · rw [List.mem_singleton.1 hr]; exact hrow
  | some j =>
    obtain ⟨e, hej, hek⟩ := MapT.find h he hM.ok hk hfm
    have hej' : es[j]? = some e := by rw [← Array.getElem?_toList]; exact hej
    simp only [Option.map_some, Nat.zero_add, Sem.run_bind, hej', Option.getD_some, hek]
    have hstay : (Instr.keyThatStays (keyV ag k) (keyV ag k)).run P w = .ok (keyV ag k) w := by
      simp only [Instr.keyThatStays, sameBits_key hp hk ag (fun q => by subst q; exact keyOk_one h), if_true, Sem.run_pure]
    simp only [hstay, Result.andThen_ok]
    refine ⟨.map (es.modify j fun e => { e with key := keyV ag k, val := u }) clock, Go.MapKept.run_setObj_map _ ho, ⟨es.modify j fun e => { e with key := keyV ag k, val := u }, clock, by simp [hlt], ?_, Go.MapKept.stamped_modify hst j _ (fun _ _ => rfl) (fun e' _ h' => ?_)⟩, ?_⟩
    · apply List.ext_getElem?
      intro i
      have hi := congrArg (fun l => l[i]?) he
      simp only [List.getElem?_map] at hi
      simp only [List.getElem?_map, Array.getElem?_toList, Array.getElem?_modify, List.getElem?_set]
      by_cases q : j = i
      · subst q
        rw [Array.getElem?_toList] at hi
        have hjl := (fM_lt hfm).1
        simp only [if_true, hej', Option.map_some, if_pos hjl, hen]
      · rw [if_neg q, if_neg q]
        rw [Array.getElem?_toList] at hi
        exact hi
    · rw [hej'] at h'
      injection h' with h'
      subst h'
      exact hek.symm
    · intro r hr
      rcases List.mem_or_eq_of_mem_set hr with hr | hr
      · exact hM.ok r hr
      · rw [hr]; exact hrow
theorem run_delete {P : Program} {w : World} {t kt et kty ty : TypeId} {ks : List Kd} {ag : Bool} {v : Kd} {g : Nat} {L : List (List Value)} {k : List Value} (hu : P.underlying t = some (.map kt et)) (h : keyOk P kt ks ag = true) (hl : ks.length ≤ 100) (hM : MapT w g ks ag v L) (hk : kAll ks k) :
    ∃ o, (Builtin.delete_ #[t, kty] ty #[.map (some g), keyV ag k]).run P w = .ok (.tuple #[]) { w with heap := w.heap.setIfInBounds g o } ∧ MapT { w with heap := w.heap.setIfInBounds g o } g ks ag v (mDel ks.length k L) := by
  obtain ⟨es, clock, ho, he, hst⟩ := hM.obj
  have hfind := find_key h hl hk w he hM.ok
  have hlt : g < w.heap.size := (Array.getElem?_eq_some_iff.1 ho).1
  unfold mDel
  simp only [Builtin.delete_, List.getElem?_toArray, List.getElem?_cons_zero, List.getElem?_cons_succ, Sem.run_bind, run_underlying hu, Result.andThen_ok, Go.MapKept.run_getObj_map ho, key_check h hk, hfind, Sem.run_pure]
  unfold fndV
  cases hfm : fM ks.length k L with
  | none =>
    simp only [Option.map_none]
    refine ⟨.map es clock, ?_, ⟨es, clock, by simp [hlt], he, hst⟩, hM.ok⟩
    rw [Sem.run_bind, Go.MapKept.run_setObj_map _ ho]
    rfl
  | some j =>
    simp only [Option.map_some, Nat.zero_add]
    refine ⟨.map (es.eraseIdxIfInBounds j) clock, ?_, ⟨es.eraseIdxIfInBounds j, clock, by simp [hlt], ?_, Go.MapKept.stamped_erase hst j⟩, fun r hr => hM.ok r (List.mem_of_mem_eraseIdx hr)⟩
    · rw [Sem.run_bind, Go.MapKept.run_setObj_map _ ho]
      rfl
    · have hlen : es.size = L.length := by simpa using congrArg List.length he
      have : (es.eraseIdxIfInBounds j).toList = es.toList.eraseIdx j := by
        unfold Array.eraseIdxIfInBounds
        rw [dif_pos (by have := (fM_lt hfm).1; omega)]
        exact Array.toList_eraseIdx ..
      have em : ∀ {α γ : Type} (f : α → γ) (l : List α) (j : Nat), (l.eraseIdx j).map f = (l.map f).eraseIdx j := by
        intro α γ f l
        induction l with
        | nil => intro j; rfl
        | cons x l ih => intro j; cases j with | zero => rfl | succ j => simp only [List.eraseIdx_cons_succ, List.map_cons, ih]
      rw [this, em, he, em]
theorem Only.setObj {S : Nat → Prop} {w0 w : World} {g : Nat} (o : Obj) (hg : S g ∨ w0.heap.size ≤ g) (h : Only S w0 w) : Only S w0 { w with heap := w.heap.setIfInBounds g o } :=
  ⟨h.os, h.tape, h.output, by simpa using h.size, fun i hi hs => by
    have hne : g ≠ i := fun e => by
      subst e
      rcases hg with hg | hg
      · exact hs hg
      · omega
    show (w.heap.setIfInBounds g o)[i]? = _
    rw [Array.getElem?_setIfInBounds_ne hne]
    exact h.block i hi hs⟩
/-- The map told anew. -/
def setM (b : Bk) (ks : List Kd) (ag : Bool) (v : Kd) (t : Tm) : Bk := { b with x := .mp ks ag v t }
theorem Md.setM {ρ : Env} {β : Bn} {S : Nat → Prop} {w0 w : World} {β0 : Bn} {n0 : Nat} {s : St} {a : Act} (hM : Md ρ S w0 β0 n0 s β a w) {b : Bk} {ks : List Kd} {ag : Bool} {v : Kd} {t0 t : Tm} (hb : b ∈ s.hp) (hs : b.str = none) (hx : b.x = .mp ks ag v t0) (hrw : b.rw = true) {o : Obj}
    (h : MapT { w with heap := w.heap.setIfInBounds (β b.l) o } (β b.l) ks ag v (den ρ t).c) : Md ρ S w0 β0 n0 { s with hp := replHp (Sy.setM b ks ag v t) s.hp } β a { w with heap := w.heap.setIfInBounds (β b.l) o } := by
  have hr : b.real β := .inl (by unfold Bk.nilable; rw [hs, hx]; rfl)
  have ho : Only S w0 { w with heap := w.heap.setIfInBounds (β b.l) o } := Sy.Only.setObj o (hM.may0 b hb hrw hr) hM.only
  refine Sy.Md.repl hM (b := b) (nb := Sy.setM b ks ag v t) hb rfl (fun _ => hr) (fun _ => hrw) ho ?_ (fun x hx hne => Sy.Md.others hM hb hr (fun g hg => ?_) x hx hne) (fun h => by
    unfold Bk.own at h
    rw [Bool.and_eq_true] at h
    exact Bool.noConfusion (show false = true from h.2))
  · unfold BkOk Sy.setM
    simp only [hs]
    exact h
  · exact Array.getElem?_setIfInBounds_ne (Ne.symm hg)
/-- A new map. -/
def St.newM (s : St) (n : Nat) (ks : List Kd) (ag : Bool) (v : Kd) : St := { s with hp := insBk ⟨n, 0, [], true, none, .mp ks ag v tn⟩ s.hp, nx := max s.nx (n + 2) }
theorem Md.newM {ρ : Env} {β : Bn} {S : Nat → Prop} {w0 w : World} {β0 : Bn} {n0 : Nat} {s : St} {a : Act} (hM : Md ρ S w0 β0 n0 s β a w) (n : Nat) (hn : n0 ≤ n) (hf : s.free n = true) (ks : List Kd) (ag : Bool) (v : Kd) :
    Md ρ S w0 β0 n0 (s.newM n ks ag v) (upd β n w.heap.size) a (w.alloc (.map #[] 0)) := by
  unfold St.free at hf
  simp only [Bool.and_eq_true, List.all_eq_true, Bool.not_eq_true'] at hf
  have old : ∀ b ∈ s.hp, upd β n w.heap.size b.l = β b.l ∧ upd β n w.heap.size (b.l + 1) = β (b.l + 1) ∧ denL ρ (upd β n w.heap.size) b.cs = denL ρ β b.cs := fun b hb =>
    ⟨upd_old (beq_ne (hf.2 b hb).1), upd_old (beq_ne (hf.2 b hb).2.2), denL_upd ρ (hf.2 b hb).2.1⟩
  have oldr : ∀ b ∈ s.hp, b.real (upd β n w.heap.size) → b.real β := fun b hb hr => hr.imp id (fun h => by rw [← (old b hb).2.1]; exact h)
  refine ⟨?_, ?_, ?_, ?_, hM.cx, hM.only.alloc _, ?_⟩
  · rw [hM.act]
    congr 2
    apply List.map_congr_left
    intro x hx
    exact (SV.den_upd ρ (hf.1 x hx)).symm
  · intro b hb
    rcases mem_ins hb with rfl | hb
    · show MapT _ (upd β n w.heap.size n) ks ag v []
      rw [upd_new]
      exact ⟨⟨#[], 0, (Go.MapKept.heap_alloc w _).1, rfl, Go.MapKept.stamped_empty 0⟩, fun r hr => by cases hr⟩
    · exact BkOk.agree ((hM.hp b hb).alloc _) (old b hb).1 (fun _ => (old b hb).2.1) (old b hb).2.2
  · intro x hx y hy hne hrx hry
    rcases mem_ins hx with rfl | hx <;> rcases mem_ins hy with rfl | hy
    · exact absurd rfl hne
    · intro g gx gy
      have e : g = upd β n w.heap.size n := fp_one rfl gx
      rw [upd_new] at e
      have := (hM.hp y hy).fplt (oldr y hy hry) ((fp_agree (old y hy).1 (old y hy).2.2 g).1 gy)
      omega
    · intro g gx gy
      have e : g = upd β n w.heap.size n := fp_one rfl gy
      rw [upd_new] at e
      have := (hM.hp x hx).fplt (oldr x hx hrx) ((fp_agree (old x hx).1 (old x hx).2.2 g).1 gx)
      omega
    · exact (hM.ne x hx y hy hne (oldr x hx hrx) (oldr y hy hry)).agree (old x hx).1 (old x hx).2.2 (old y hy).1 (old y hy).2.2
  · intro b hb hw hr g hg
    rcases mem_ins hb with rfl | hb
    · refine .inr ?_
      have e : g = upd β n w.heap.size n := fp_one rfl hg
      rw [e, upd_new]
      exact hM.only.size
    · exact hM.may b hb hw (oldr b hb hr) g ((fp_agree (old b hb).1 (old b hb).2.2 g).1 hg)
  · intro l hl
    rw [upd_old (by omega)]
    exact hM.old l hl
/-- Which cells do keys of that type have? -/
def keyKinds (P : Program) (kt : TypeId) : Option (List Kd × Bool) :=
  match P.underlying kt with
  | some (.struct _) => (kindsOf P kt).map fun l => (l, true)
  | _ => (kindsOf P kt).map fun l => (l, false)
def kind1 (P : Program) (et : TypeId) : Option Kd := (zero1 P et).bind kdC
/-- Operations that turn maps: what is to be shown, the blocks and the letters behind them, the value. -/
def mapS (P : Program) (n0 : Nat) (s : St) (o : Oper) (n : Nat) : Option (List Tm × List Bk × Nat × SV) :=
  match o.op with
  | .mapUpdate t x k u => match opd s.tm x, opd s.tm k, opd s.tm u with
    | some (.one (.c (.map l))), some k, some (.one (.c u)) => match mapFind s.hp l with
      | some (b, ks, ag, v, tt) => match keyCs ag k with
        | some cs => if b.rw && (mapOk P t ks ag v && Nat.beq cs.length ks.length) then match rowTm s.cx (cs ++ [u]) (ks ++ [v]) with
            | some (m, r) => some (m, replHp (setM b ks ag v (.tb (.mput ks.length) tt r (.il 0))) s.hp, s.nx, undS)
            | none => none
          else none
        | none => none
      | none => none
    | _, _, _ => none
  | .call c => match c.callee, c.args.toList, c.argTypes.toList with
    | .builtin .delete, [x, k], [t, _] => match opd s.tm x, opd s.tm k with
      | some (.one (.c (.map l))), some k => match mapFind s.hp l with
        | some (b, ks, ag, v, tt) => match keyCs ag k with
          | some cs => if b.rw && mapOk P t ks ag v then match rowTm s.cx cs ks with
              | some (m, r) => some (m, replHp (setM b ks ag v (.tb (.mdel ks.length) tt r (.il 0))) s.hp, s.nx, undS)
              | none => none
            else none
          | none => none
        | none => none
      | _, _ => none
    | _, _, _ => none
  | .makeMap t none => match P.underlying t with
    | some (.map kt et) => match keyKinds P kt, kind1 P et with
      | some (ks, ag), some v => if Nat.ble n0 n && s.free n then some ([], (s.newM n ks ag v).hp, max s.nx (n + 2), .one (.c (.map n))) else none
      | _, _ => none
    | _ => none
  | _ => none
theorem kAll_split {ks : List Kd} {v : Kd} : ∀ {k : List Value} {u : Value}, k.length = ks.length → kAll (ks ++ [v]) (k ++ [u]) → kAll ks k ∧ kOK v u := by
  induction ks with
  | nil => intro k u hl h; cases k with | nil => exact ⟨trivial, h.1⟩ | cons _ _ => cases hl
  | cons q ks ih => intro k u hl h; cases k with | nil => cases hl | cons x k =>
    obtain ⟨h1, h2⟩ := ih (by simpa using hl) h.2
    exact ⟨⟨h.1, h1⟩, h2⟩
theorem mapS_ok {ρ : Env} (hρ : ρ.good) {β : Bn} {P : Program} {S : Nat → Prop} {w0 w : World} {β0 : Bn} {n0 : Nat} {s s1 : St} {a : Act} (hM : Md ρ S w0 β0 n0 s1 β a w) (ehp : s1.hp = s.hp) (etm : s1.tm = s.tm) (hc : s.cx.ok ρ) {o : Oper} {n : Nat} {m : List Tm} {hp' : List Bk} {nx' : Nat} {v : SV}
    (h : mapS P n0 s o n = some (m, hp', nx', v)) (hm : Met ρ m) : ∃ β' w' r, (execOp a.eval o).run P w = .ok r w' ∧ (r = .value (v.den ρ β') ∨ r = .skip ∧ v = undS) ∧ Md ρ S w0 β0 n0 { s1 with hp := hp', nx := nx' } β' a w' := by
  have hev : ∀ x v, opd s.tm x = some v → a.eval x = v.den ρ β := fun x v hx => Sy.Md.opd hM (by rw [etm]; exact hx)
  unfold mapS at h
  split at h
  · rename_i t x k u ho
    split at h
    · rename_i l k' u' hx hk hu
      split at h
      · rename_i b ks ag vv tt hf
        obtain ⟨hbm, hbl, hs, hxx⟩ := mapFind_ok hf
        split at h
        · rename_i cs hks
          split at h
          · rename_i q
            simp only [Bool.and_eq_true] at q
            split at h
            · rename_i m' r hrow
              injection h with h
              injection h with e1 h
              injection h with e2 h
              injection h with e3 e4
              subst e1 e2 e3 e4
              obtain ⟨kt, et, z, hut, hko, hl, hp, _, _⟩ := mapOk_ok q.2.1
              obtain ⟨hr1, hr2⟩ := rowTm_ok (β := β) hc hrow hm
              rw [denL_app] at hr1 hr2
              obtain ⟨hk1, hu1⟩ := kAll_split (by rw [denL_len]; exact Nat.eq_of_beq_eq_true q.2.2) hr2
              have hbm1 : b ∈ s1.hp := by rw [ehp]; exact hbm
              have hMT := (hM.hp b hbm1).map hs hxx
              obtain ⟨ob, hrun, hMT'⟩ := run_mapUpdate hut hko hp hl hMT hk1 hu1
              refine ⟨β, { w with heap := w.heap.setIfInBounds (β b.l) ob }, .skip, ?_, .inr ⟨rfl, rfl⟩, ?_⟩
              rotate_left
              · have e := Sy.Md.setM hM (t := .tb (.mput ks.length) tt r (.il 0)) hbm1 hs hxx q.1 (by
                  show MapT _ _ _ _ _ (mPut ks.length ((den ρ r).c.headD []) (den ρ tt).c)
                  rw [hr1]
                  exact hMT')
                rw [ehp] at e
                exact ⟨e.act, e.hp, e.ne, e.may, e.cx, e.only, e.old⟩
              · unfold execOp
                simp only [ho, hev _ _ hx, hev _ _ hk, hev _ _ hu, Sem.run_bind, keyCs_den hks]
                change (Instr.mapUpdate t (.map (some (β b.l))) (keyV ag (denL ρ β cs)) (u'.den ρ β)).run P w = _ at hrun
                rw [hbl] at hrun
                rw [hbl]
                show ((Instr.mapUpdate t (.map (some (β l))) (keyV ag (denL ρ β cs)) (u'.den ρ β)).run P w).andThen _ = _
                rw [hrun]
                rfl
            · cases h
          · cases h
        · cases h
      · cases h
    · cases h
  · rename_i c ho
    split at h
    · rename_i x k t t2 hcal hargs hats
      split at h
      · rename_i l k' hx hk
        split at h
        · rename_i b ks ag vv tt hf
          obtain ⟨hbm, hbl, hs, hxx⟩ := mapFind_ok hf
          split at h
          · rename_i cs hks
            split at h
            · rename_i q
              simp only [Bool.and_eq_true] at q
              split at h
              · rename_i m' r hrow
                injection h with h
                injection h with e1 h
                injection h with e2 h
                injection h with e3 e4
                subst e1 e2 e3 e4
                obtain ⟨kt, et, z, hut, hko, hl, hp, _, _⟩ := mapOk_ok q.2
                obtain ⟨hr1, hr2⟩ := rowTm_ok (β := β) hc hrow hm
                have hbm1 : b ∈ s1.hp := by rw [ehp]; exact hbm
                have hMT := (hM.hp b hbm1).map hs hxx
                obtain ⟨ob, hrun, hMT'⟩ := run_delete (kty := t2) (ty := o.type) hut hko hl hMT hr2
                refine ⟨β, { w with heap := w.heap.setIfInBounds (β b.l) ob }, .value (.tuple #[]), ?_, .inl rfl, ?_⟩
                rotate_left
                · have e := Sy.Md.setM hM (t := .tb (.mdel ks.length) tt r (.il 0)) hbm1 hs hxx q.1 (by
                    show MapT _ _ _ _ _ (mDel ks.length ((den ρ r).c.headD []) (den ρ tt).c)
                    rw [hr1]
                    exact hMT')
                  rw [ehp] at e
                  exact ⟨e.act, e.hp, e.ne, e.may, e.cx, e.only, e.old⟩
                · have e1 : c = ⟨.builtin .delete, #[x, k], #[t, t2]⟩ := by
                    obtain ⟨a, b, d⟩ := c
                    simp only at hcal hargs hats
                    subst hcal
                    congr 1
                    · rw [← hargs]
                    · rw [← hats]
                  subst e1
                  unfold execOp
                  simp only [ho, resolve, invoke, builtin, Sem.run_bind, Sem.run_pure, Result.andThen_ok, List.map_toArray, List.map_cons, List.map_nil, hev _ _ hx, hev _ _ hk, keyCs_den hks]
                  rw [hbl] at hrun
                  rw [hbl]
                  show ((Builtin.delete_ #[t, t2] o.type #[.map (some (β l)), keyV ag (denL ρ β cs)]).run P w).andThen _ = _
                  rw [hrun]
                  rfl
              · cases h
            · cases h
          · cases h
        · cases h
      · cases h
    · cases h
  · rename_i t ho
    split at h
    · rename_i kt et hu
      split at h
      · rename_i ks ag vv hkk hk1
        split at h
        · rename_i q
          simp only [Bool.and_eq_true] at q
          injection h with h
          injection h with e1 h
          injection h with e2 h
          injection h with e3 e4
          subst e1 e2 e3 e4
          have efr : s1.free n = s.free n := by unfold St.free; rw [ehp, etm]
          have e := Sy.Md.newM hM n (Nat.le_of_ble_eq_true q.1) (by rw [efr]; exact q.2) ks ag vv
          refine ⟨upd β n w.heap.size, w.alloc (.map #[] 0), .value (.map (some w.heap.size)), ?_, .inl ?_, ?_⟩
          rotate_left 2
          · unfold St.newM at e ⊢
            rw [ehp] at e
            exact ⟨e.act, e.hp, e.ne, e.may, e.cx, e.only, e.old⟩
          · unfold execOp
            simp only [ho, Option.map_none, Instr.makeMap, Sem.run_bind, Sem.run_pure, Result.andThen_ok]
            rfl
          · show _ = Next.value (.map (some (upd β n w.heap.size n)))
            rw [upd_new]
        · cases h
      · cases h
    · cases h
  · cases h
def tabA (P : Program) (n0 : Nat) (s : St) (o : Oper) (n : Nat) : Option (List Tm × List Bk × Nat × SV) :=
  match tabS P n0 s o n with
  | some r => some r
  | none => mapS P n0 s o n
theorem tabA_ok {ρ : Env} (hρ : ρ.good) {β : Bn} {P : Program} {S : Nat → Prop} {w0 w : World} {β0 : Bn} {n0 : Nat} {s s1 : St} {a : Act} (hM : Md ρ S w0 β0 n0 s1 β a w) (ehp : s1.hp = s.hp) (etm : s1.tm = s.tm) (hc : s.cx.ok ρ) {o : Oper} {n : Nat} {m : List Tm} {hp' : List Bk} {nx' : Nat} {v : SV}
    (h : tabA P n0 s o n = some (m, hp', nx', v)) (hm : Met ρ m) : ∃ β' w' r, (execOp a.eval o).run P w = .ok r w' ∧ (r = .value (v.den ρ β') ∨ r = .skip ∧ v = undS) ∧ Md ρ S w0 β0 n0 { s1 with hp := hp', nx := nx' } β' a w' := by
  unfold tabA at h
  split at h
  · rename_i r' hr
    injection h with h
    subst h
    exact tabS_ok hρ hM ehp etm hc hr hm
  · exact mapS_ok hρ hM ehp etm hc h hm
end Sy
end Go.Proofs.Ytnmfmjlpfhdgeaa
