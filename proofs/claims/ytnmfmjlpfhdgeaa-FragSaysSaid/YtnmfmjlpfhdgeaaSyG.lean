/- All operations that only reckon, by one function; loads, stores, new variables. -/
import Derived.Test.YtnmfmjlpfhdgeaaSyF
import Derived.Deep.MidRow
namespace Go.Proofs.Ytnmfmjlpfhdgeaa
namespace Sy
open Go Go.RowKit Go.BigFrame
set_option linter.unusedVariables false
set_option linter.unusedSimpArgs false

def mkIte (c x y : Tm) : Tm :=
  match c with
  | .bl true => x
  | .bl false => y
  | c => if same x y then x else .ite c x y
theorem mkIte_i (ρ : Env) (c x y : Tm) : (den ρ (mkIte c x y)).i = if (den ρ c).b then (den ρ x).i else (den ρ y).i := by
  unfold mkIte
  split
  · rfl
  · rfl
  · split
    · rename_i q
      rw [same_eq q]
      simp
    · show (if (den ρ c).b then den ρ x else den ρ y).i = _
      exact ite_dn ..
theorem mkIte_s (ρ : Env) (c x y : Tm) : (den ρ (mkIte c x y)).s = if (den ρ c).b then (den ρ x).s else (den ρ y).s := by
  unfold mkIte
  split
  · rfl
  · rfl
  · split
    · rename_i q
      rw [same_eq q]
      simp
    · show (if (den ρ c).b then den ρ x else den ρ y).s = _
      exact ite_ds ..
theorem mkIte_b (ρ : Env) (c x y : Tm) : (den ρ (mkIte c x y)).b = if (den ρ c).b then (den ρ x).b else (den ρ y).b := by
  unfold mkIte
  split
  · rfl
  · rfl
  · split
    · rename_i q
      rw [same_eq q]
      simp
    · show (if (den ρ c).b then den ρ x else den ρ y).b = _
      cases (den ρ c).b <;> rfl
def pickS (cx : Cx) (c a b : SV) : PR :=
  match c with
  | .one (.c (.bool t)) =>
    match dec0 cx t with
    | some true => some ([], a)
    | some false => some ([], b)
    | none =>
      match a, b with
      | .one (.c (.int k x)), .one (.c (.int l y)) => if Nat.beq (kNo k) (kNo l) then sI [] k (mkIte t x y) else none
      | .one (.c (.bool x)), .one (.c (.bool y)) => sB [] (mkIte t x y)
      | .one (.c (.str x)), .one (.c (.str y)) => sS [] (mkIte t x y)
      | _, _ => none
  | _ => none
theorem pickS_ok {ρ : Env} {β : Bn} {P : Program} {cx : Cx} (hc : cx.ok ρ) {c a b : SV} {m : List Tm} {r : SV} (h : pickS cx c a b = some (m, r)) (w : World) :
    (do pure (.value (if ← asBool (c.den ρ β) then a.den ρ β else b.den ρ β)) : Sem Next).run P w = .ok (.value (r.den ρ β)) w := by
  unfold pickS at h
  split at h
  · rename_i t
    show (do pure (.value (if ← asBool (.bool (den ρ t).b) then a.den ρ β else b.den ρ β)) : Sem Next).run P w = _
    simp only [asBool, Sem.run_bind, Sem.run_pure, Result.andThen_ok]
    split at h
    · rename_i q
      rw [dec0_ok hc q]
      injection h with h
      injection h with h1 h2
      subst h1 h2
      rfl
    · rename_i q
      rw [dec0_ok hc q]
      injection h with h
      injection h with h1 h2
      subst h1 h2
      rfl
    · split at h
      · rename_i k x l y
        split at h
        · rename_i q
          have q := kNo_inj (Nat.eq_of_beq_eq_true q)
          subst q
          injection h with h
          injection h with h1 h2
          subst h1 h2
          show Result.ok (Next.value (if (den ρ t).b = true then Value.int k (den ρ x).i else Value.int k (den ρ y).i)) w = .ok (.value (.int k _)) w
          rw [mkIte_i]
          cases (den ρ t).b <;> rfl
        · cases h
      · rename_i x y
        injection h with h
        injection h with h1 h2
        subst h1 h2
        show Result.ok (Next.value (if (den ρ t).b = true then Value.bool (den ρ x).b else Value.bool (den ρ y).b)) w = .ok (.value (.bool _)) w
        rw [mkIte_b]
        cases (den ρ t).b <;> rfl
      · rename_i x y
        injection h with h
        injection h with h1 h2
        subst h1 h2
        show Result.ok (Next.value (if (den ρ t).b = true then Value.string (den ρ x).s else Value.string (den ρ y).s)) w = .ok (.value (.string _)) w
        rw [mkIte_s]
        cases (den ρ t).b <;> rfl
      · cases h
  · cases h
def lenS (P : Program) (c : Cx) (ts : Array TypeId) (xs : List SV) : PR :=
  match ts.toList, xs with
  | [t], [x] =>
    match P.underlying t, x with
    | some .string, .one (.c (.str s)) => sI [] .i64 (mkLen c s)
    | some (.slice _), .one (.c (.slc _ _ n _)) => sI (need c (.le (.il 0) n)) .i64 n
    | some (.slice _), .one (.c .nslc) => sI [] .i64 (.il 0)
    | some (.map _ _), .one (.c .nmap) => sI [] .i64 (.il 0)
    | some (.array n _), _ => sI [] .i64 (.il n)
    | some (.pointer e), _ => match P.underlying e with
      | some (.array n _) => sI [] .i64 (.il n)
      | _ => none
    | _, _ => none
  | _, _ => none
theorem list_one {ts : Array TypeId} {t : TypeId} (h : ts.toList = [t]) : ts = #[t] := by
  cases ts; simp at h; rw [h]
theorem lenS_ok {ρ : Env} {β : Bn} {P : Program} {c : Cx} (hc : c.ok ρ) {ts : Array TypeId} {xs : List SV} {m : List Tm} {r : SV} (h : lenS P c ts xs = some (m, r)) (hm : Met ρ m) (ty : TypeId) (w : World) :
    (Builtin.len_ ts ty (xs.map (SV.den ρ β)).toArray).run P w = .ok (r.den ρ β) w := by
  unfold lenS at h
  split at h
  · rename_i t x ht
    rw [list_one ht]
    show (Builtin.len_ #[t] ty #[x.den ρ β]).run P w = _
    split at h
    · rename_i s hu
      injection h with h
      injection h with h1 h2
      subst h1 h2
      rw [show SV.den ρ β (.one (.c (.str s))) = .string (den ρ s).s from rfl, run_len_string w t ty _ hu]
      exact res_int (mkLen_ok hc s)
    · rename_i e l o n cp hu
      injection h with h
      injection h with h1 h2
      subst h1 h2
      have h0 := le_of (need_ok hc hm)
      change (0 : Int) ≤ _ at h0
      rw [show SV.den ρ β (.one (.c (.slc l o n cp))) = .slice (some ⟨β l, o, none⟩) (den ρ n).i.toNat (den ρ cp).i.toNat from rfl]
      simp only [Builtin.len_, List.getElem?_toArray, List.getElem?_cons_zero, Sem.run_bind, run_underlying hu, Result.andThen_ok, Sem.run_pure]
      exact res_int (by omega)
    · rename_i e hu
      injection h with h
      injection h with h1 h2
      subst h1 h2
      rw [show SV.den ρ β (.one (.c .nslc)) = .slice none 0 0 from rfl]
      simp only [Builtin.len_, List.getElem?_toArray, List.getElem?_cons_zero, Sem.run_bind, run_underlying hu, Result.andThen_ok, Sem.run_pure]
      rfl
    · rename_i k e hu
      injection h with h
      injection h with h1 h2
      subst h1 h2
      rw [show SV.den ρ β (.one (.c .nmap)) = .map none from rfl]
      simp only [Builtin.len_, List.getElem?_toArray, List.getElem?_cons_zero, Sem.run_bind, run_underlying hu, Result.andThen_ok, Sem.run_pure]
      rfl
    · rename_i n e hu
      injection h with h
      injection h with h1 h2
      subst h1 h2
      simp only [Builtin.len_, List.getElem?_toArray, List.getElem?_cons_zero, Sem.run_bind, run_underlying hu, Result.andThen_ok, Sem.run_pure]
      rfl
    · rename_i e hu
      split at h
      · rename_i n f hf
        injection h with h
        injection h with h1 h2
        subst h1 h2
        simp only [Builtin.len_, List.getElem?_toArray, List.getElem?_cons_zero, Sem.run_bind, run_underlying hu, run_underlying hf, Result.andThen_ok, Sem.run_pure]
        rfl
      · cases h
    · cases h
  · cases h
def builtS' (P : Program) (c : Cx) (b : Builtin) (ts : Array TypeId) (xs : List SV) : PR :=
  match b, xs with
  | .len, xs => lenS P c ts xs
  | .min, [.one (.c (.int k x)), .one (.c (.int _ y))] => sI [] k (mkIte (mkB c (.lt y x)) y x)
  | .max, [.one (.c (.int k x)), .one (.c (.int _ y))] => sI [] k (mkIte (mkB c (.lt x y)) y x)
  | _, _ => none
theorem builtS'_ok {ρ : Env} {β : Bn} {P : Program} {c : Cx} (hc : c.ok ρ) {b : Builtin} {ts : Array TypeId} {xs : List SV} {m : List Tm} {r : SV} (h : builtS' P c b ts xs = some (m, r)) (hm : Met ρ m) (ty : TypeId) (cs : Array Bool) (w : World) :
    (builtin b ts ty cs (xs.map (SV.den ρ β)).toArray).run P w = .ok (.value (r.den ρ β)) w := by
  unfold builtS' at h
  split at h
  · rw [builtin_len]
    simp only [Sem.run_bind, lenS_ok (β := β) hc h hm ty w, Result.andThen_ok, Sem.run_pure]
  · rename_i k x l y
    injection h with h
    injection h with h1 h2
    subst h1 h2
    rw [builtin_min]
    show (do pure (.value (← Builtin.min_ ts ty #[.int k (den ρ x).i, .int l (den ρ y).i])) : Sem Next).run P w = _
    simp only [Sem.run_bind, run_min_int2, Result.andThen_ok, Sem.run_pure]
    show Result.ok (Next.value (Value.int k _)) w = .ok (.value (.int k _)) w
    rw [mkIte_i, mkB_ok hc]
    show Result.ok (Next.value (Value.int k _)) w = .ok (.value (.int k (if decide ((den ρ y).i < (den ρ x).i) = true then _ else _))) w
    simp only [decide_eq_true_eq]
  · rename_i k x l y
    injection h with h
    injection h with h1 h2
    subst h1 h2
    rw [builtin_max]
    show (do pure (.value (← Builtin.max_ ts ty #[.int k (den ρ x).i, .int l (den ρ y).i])) : Sem Next).run P w = _
    simp only [Sem.run_bind, run_max_int2, Result.andThen_ok, Sem.run_pure]
    show Result.ok (Next.value (Value.int k _)) w = .ok (.value (.int k _)) w
    rw [mkIte_i, mkB_ok hc]
    show Result.ok (Next.value (Value.int k _)) w = .ok (.value (.int k (if decide ((den ρ x).i < (den ρ y).i) = true then _ else _))) w
    simp only [decide_eq_true_eq, gt_iff_lt]
  · cases h
/-- All of a list, or none. -/
def allS (ev : Operand → Option SV) : List Operand → Option (List SV)
  | [] => some []
  | x :: l => match ev x, allS ev l with
    | some v, some vs => some (v :: vs)
    | _, _ => none
theorem allS_ok {ρ : Env} {β : Bn} {ev : Operand → Option SV} {a : Act} (hev : ∀ x v, ev x = some v → a.eval x = v.den ρ β) : ∀ {l : List Operand} {vs : List SV}, allS ev l = some vs → l.map a.eval = vs.map (SV.den ρ β)
  | [], vs, h => by injection h with h; subst h; rfl
  | x :: l, vs, h => by
    simp only [allS] at h
    split at h
    · rename_i v us h1 h2
      injection h with h
      subst h
      simp only [List.map_cons, hev _ _ h1, allS_ok hev h2]
    · cases h
def partsS (ev : Operand → Option SV) : List (Nat × Operand) → Option (List (Nat × V1))
  | [] => some []
  | (i, x) :: l => match ev x, partsS ev l with
    | some (.one v), some vs => some ((i, v) :: vs)
    | _, _ => none
theorem partsS_ok {ρ : Env} {β : Bn} {ev : Operand → Option SV} {a : Act} (hev : ∀ x v, ev x = some v → a.eval x = v.den ρ β) : ∀ {l : List (Nat × Operand)} {vs : List (Nat × V1)}, partsS ev l = some vs → l.map (fun p => (p.1, a.eval p.2)) = vs.map fun p => (p.1, p.2.den ρ β)
  | [], vs, h => by injection h with h; subst h; rfl
  | (i, x) :: l, vs, h => by
    simp only [partsS] at h
    split at h
    · rename_i v us h1 h2
      injection h with h
      subst h
      simp only [List.map_cons, hev _ _ h1, partsS_ok hev h2]
      rfl
    · cases h
/-- Captured variables. -/
def capS : List SV → Option (List Nat)
  | [] => some []
  | .one (.c (.ptr l o)) :: xs => if Nat.beq o 0 then (capS xs).map (l :: ·) else none
  | _ :: _ => none
theorem capS_ok {ρ : Env} {β : Bn} : ∀ {xs : List SV} {ls : List Nat}, capS xs = some ls → xs.map (SV.den ρ β) = ls.map fun l => Value.pointer (some ⟨β l, 0, none⟩)
  | [], ls, h => by injection h with h; subst h; rfl
  | x :: xs, ls, h => by
    unfold capS at h
    split at h
    · rename_i e; cases e
    · rename_i l o ys e
      injection e with e1 e2
      subst e1 e2
      split at h
      · rename_i q
        have q := Nat.eq_of_beq_eq_true q
        subst q
        cases hq : capS xs with
        | none => rw [hq] at h; cases h
        | some us =>
          rw [hq] at h
          injection h with h
          subst h
          simp only [List.map_cons, capS_ok hq]
          rfl
      · cases h
    · cases h

def optEv (ev : Operand → Option SV) : Option Operand → Option (Option SV)
  | none => some none
  | some x => (ev x).map some
theorem optEv_ok {ρ : Env} {β : Bn} {ev : Operand → Option SV} {a : Act} (hev : ∀ x v, ev x = some v → a.eval x = v.den ρ β) {o : Option Operand} {r : Option SV} (h : optEv ev o = some r) : o.map a.eval = r.map (SV.den ρ β) := by
  cases o with
  | none => injection h with h; subst h; rfl
  | some x =>
    simp only [optEv] at h
    cases hx : ev x with
    | none => rw [hx] at h; cases h
    | some v =>
      rw [hx] at h
      injection h with h
      subst h
      simp only [Option.map_some, hev _ _ hx]

/-- What an operation that only reckons gives. -/
def pureS (P : Program) (c : Cx) (ev : Operand → Option SV) : Op → PR
  | .move x | .assign x => (ev x).map fun v => ([], v)
  | .pick t x y => match ev t, ev x, ev y with
    | some t, some x, some y => pickS c t x y
    | _, _, _ => none
  | .build t parts => match partsS ev parts.toList with
    | some ps => (builtS P t ps).map fun l => ([], .one (.agg l))
    | none => none
  | .nilCheck x => match ev x with
    | some (.one (.c (.ptr l o))) => some ([], .one (.c (.ptr l o)))
    | some (.one (.c (.fn f ls))) => some ([], .one (.c (.fn f ls)))
    | some (.one (.c (.map l))) => some ([], .one (.c (.map l)))
    | _ => none
  | .binOp op t x y _ => match ev x, ev y with
    | some x, some y => binS P c op t x y
    | _, _ => none
  | .unOp op _ x => match ev x with
    | some x => unS c op x
    | none => none
  | .convert s d x => match ev x with
    | some x => convS P c s d x
    | none => none
  | .slice t x lo hi mx => match ev x, optEv ev lo, optEv ev hi, optEv ev mx with
    | some x, some lo, some hi, some mx => sliceS P c t x lo hi mx
    | _, _, _, _ => none
  | .fieldAddr t x f => match ev x with
    | some x => fieldAtS P t x f
    | none => none
  | .field t x f => match ev x with
    | some x => fieldS P t x f
    | none => none
  | .indexAddr t x i => match ev x, ev i with
    | some x, some i => indexAtS P c t x i
    | _, _ => none
  | .index t x i => match ev x, ev i with
    | some x, some i => indexS P c t x i
    | _, _ => none
  | .extract x n => match ev x with
    | some x => extractS x n
    | none => none
  | .makeFunc (.func f) first captured => if Nat.beq first.size 0 then
      match allS ev captured.toList with
      | some vs => (capS vs).map fun ls => ([], .one (.c (.fn f ls)))
      | none => none
    else none
  | .call k => match k.callee with
    | .builtin b => match allS ev k.args.toList with
      | some vs => builtS' P c b k.argTypes vs
      | none => none
    | _ => none
  | _ => none
theorem run_v {P : Program} {m : Sem Value} {v : Value} {w : World} (h : m.run P w = .ok v w) : (do pure (.value (← m)) : Sem Next).run P w = .ok (.value v) w := by
  simp only [Sem.run_bind, h, Result.andThen_ok, Sem.run_pure]
set_option maxHeartbeats 1000000 in
theorem pureS_ok {ρ : Env} (hρ : ρ.good) {β : Bn} {P : Program} {c : Cx} (hc : c.ok ρ) {ev : Operand → Option SV} {a : Act} (hev : ∀ x v, ev x = some v → a.eval x = v.den ρ β) {o : Oper} {m : List Tm} {r : SV}
    (h : pureS P c ev o.op = some (m, r)) (hm : Met ρ m) (w : World) : (execOp a.eval o).run P w = .ok (.value (r.den ρ β)) w := by
  obtain ⟨dst, op, ty, pos, after, guard⟩ := o
  simp only [] at h
  cases op <;> simp only [pureS] at h <;> try (cases h; done)
  case move x =>
    cases hx : ev x with
    | none => rw [hx] at h; cases h
    | some v =>
      rw [hx] at h
      injection h with h
      injection h with h1 h2
      subst h1 h2
      show Result.ok (Next.value (a.eval x)) w = _
      rw [hev _ _ hx]
  case assign x =>
    cases hx : ev x with
    | none => rw [hx] at h; cases h
    | some v =>
      rw [hx] at h
      injection h with h
      injection h with h1 h2
      subst h1 h2
      show Result.ok (Next.value (a.eval x)) w = _
      rw [hev _ _ hx]
  case pick t x y =>
    split at h
    · rename_i t' x' y' h1 h2 h3
      show (do pure (.value (if ← asBool (a.eval t) then a.eval x else a.eval y)) : Sem Next).run P w = _
      rw [hev _ _ h1, hev _ _ h2, hev _ _ h3]
      exact pickS_ok hc h w
    · cases h
  case build t parts =>
    split at h
    · rename_i ps h1
      cases hb : builtS P t ps with
      | none => rw [hb] at h; cases h
      | some l =>
        rw [hb] at h
        injection h with h
        injection h with h2 h3
        subst h2 h3
        have e := builtS_ok hρ (β := β) hb
        rw [← partsS_ok hev h1] at e
        exact run_v (run_build w t (parts.map fun p => (p.1, a.eval p.2)) _ (by simpa using e))
    · cases h
  case nilCheck x =>
    split at h
    · rename_i l o' h1
      injection h with h
      injection h with h2 h3
      subst h2 h3
      simp only [execOp, hev _ _ h1]
      rfl
    · rename_i f ls h1
      injection h with h
      injection h with h2 h3
      subst h2 h3
      simp only [execOp, hev _ _ h1]
      rfl
    · rename_i l h1
      injection h with h
      injection h with h2 h3
      subst h2 h3
      simp only [execOp, hev _ _ h1]
      rfl
    · cases h
  case binOp op t x y yt =>
    split at h
    · rename_i x' y' h1 h2
      refine run_v ?_
      rw [hev _ _ h1, hev _ _ h2]
      exact binS_ok hc h hm x y w
    · cases h
  case unOp op t x =>
    split at h
    · rename_i x' h1
      refine run_v ?_
      rw [hev _ _ h1]
      exact unS_ok hc h w
    · cases h
  case convert s d x =>
    split at h
    · rename_i x' h1
      refine run_v ?_
      rw [hev _ _ h1]
      exact convS_ok hc h w
    · cases h
  case slice t x lo hi mx =>
    split at h
    · rename_i x' lo' hi' mx' h1 h2 h3 h4
      refine run_v ?_
      rw [hev _ _ h1, optEv_ok hev h2, optEv_ok hev h3, optEv_ok hev h4]
      exact sliceS_ok hc h hm w
    · cases h
  case fieldAddr t x f =>
    split at h
    · rename_i x' h1
      refine run_v ?_
      rw [hev _ _ h1]
      exact fieldAtS_ok h w
    · cases h
  case field t x f =>
    split at h
    · rename_i x' h1
      refine run_v ?_
      rw [hev _ _ h1]
      exact fieldS_ok h w
    · cases h
  case indexAddr t x i =>
    split at h
    · rename_i x' y' h1 h2
      refine run_v ?_
      rw [hev _ _ h1, hev _ _ h2]
      exact indexAtS_ok hc h hm w
    · cases h
  case index t x i =>
    split at h
    · rename_i x' y' h1 h2
      refine run_v ?_
      rw [hev _ _ h1, hev _ _ h2]
      exact indexS_ok hc h hm w
    · cases h
  case extract x n =>
    split at h
    · rename_i x' h1
      refine run_v ?_
      rw [hev _ _ h1]
      exact extractS_ok h w
    · cases h
  case makeFunc fn first captured =>
    cases fn <;> simp only [] at h <;> try (cases h; done)
    rename_i f
    split at h
    · rename_i q
      have q := Nat.eq_of_beq_eq_true q
      have q : first = #[] := Array.eq_empty_of_size_eq_zero q
      subst q
      split at h
      · rename_i vs h1
        cases hq : capS vs with
        | none => rw [hq] at h; cases h
        | some ls =>
          rw [hq] at h
          injection h with h
          injection h with h2 h3
          subst h2 h3
          have e := capS_ok (ρ := ρ) (β := β) hq
          rw [← allS_ok hev h1] at e
          show Result.ok (Next.value (.func (.func f) _ (captured.map a.eval))) w = .ok (.value (.func (.func f) #[] (ls.map fun l => Value.pointer (some ⟨β l, 0, none⟩)).toArray)) w
          rw [← e]
          cases captured
          simp
      · cases h
    · cases h
  case call k =>
    obtain ⟨callee, args, ats⟩ := k
    cases callee <;> simp only [] at h <;> try (cases h; done)
    rename_i b
    split at h
    · rename_i vs h1
      have e := allS_ok hev h1
      rw [execOp_builtin]
      have e2 : args.map a.eval = (vs.map (SV.den ρ β)).toArray := by rw [← e]; cases args; simp
      rw [e2]
      exact builtS'_ok hc h hm ty _ w
    · cases h
end Sy
end Go.Proofs.Ytnmfmjlpfhdgeaa
