/- Maps: what look-ups, stores, deletions do. -/
import Derived.Test.YtnmfmjlpfhdgeaaSyMp
namespace Go.Proofs.Ytnmfmjlpfhdgeaa
namespace Sy
open Go Go.RowKit
set_option linter.unusedVariables false
set_option linter.unusedSimpArgs false

section
variable {P : Program} {kt : TypeId} {ks : List Kd} {ag : Bool}
theorem kAll_at {ks : List Kd} {r : List Value} (h : kAll ks r) (j : Nat) (hj : j < ks.length) : r[j]? = some (r.getD j (.bool false)) := by
  have hl := kAll_len h
  rw [List.getD, List.getElem?_eq_getElem (by omega)]
  rfl
theorem key_check (h : keyOk P kt ks ag = true) {r : List Value} (hr : kAll ks r) (em : Bool) (w : World) : (Instr.checkKey em 10000 kt (keyV ag r)).run P w = .ok () w := by
  unfold keyOk at h
  split at h
  · rename_i q
    split at h
    · rename_i q' hu
      obtain ⟨v, rfl⟩ : ∃ v, r = [v] := by
        match r, hr with
        | [v], _ => exact ⟨v, rfl⟩
      obtain ⟨z, rfl, _⟩ := hr.1
      show (Instr.checkKey em (9999 + 1) kt (.int q z)).run P w = _
      unfold Instr.checkKey
      simp only [Sem.run_bind, run_underlying hu, Result.andThen_ok]
      rfl
    · cases h
  · split at h
    · rename_i F hu
      simp only [Bool.and_eq_true] at h
      have hd := kCs_den (β := fun _ => 0) (e := fun n => r.getD n (.bool false)) (n := 0) hr (fun j hj => by rw [Nat.zero_add]; exact kAll_at hr j hj)
      show (Instr.checkKey em (9998 + 1 + 1) kt (.agg r.toArray)).run P w = _
      unfold Instr.checkKey
      simp only [Sem.run_bind, run_underlying hu, Result.andThen_ok]
      rw [← Array.forIn_toList]
      have := ckFs_run (P := P) (ρ := lE fun n => r.getD n (.bool false)) (β := fun _ => 0) (cs := kCs ks 0) em 9998 w h.1
      rw [hd] at this
      rw [this]
      rfl
    · cases h
  · cases h
theorem sqR_symm {lv : List Kd} {r q : List Value} (hr : kAll lv r) (hq : kAll lv q) : sqR r q = sqR q r := by
  by_cases h : r = q
  · rw [h]
  · rw [Bool.eq_false_iff.2 (fun e => h ((sqR_iff hr hq).1 e)), Bool.eq_false_iff.2 (fun e => h ((sqR_iff hq hr).1 e).symm)]
theorem key_equal {F : Array Field} (hu : P.underlying kt = some (.struct F)) (h : keyOk P kt ks true = true) {r q : List Value} (hr : kAll ks r) (hq : kAll ks q) (hl : ks.length ≤ 100) (w : World) : (Op.equal kt (.agg r.toArray) (.agg q.toArray)).run P w = .ok (sqR r q) w := by
  unfold keyOk at h
  simp only [hu, Bool.and_eq_true] at h
  obtain ⟨_, h⟩ := h
  split at h
  · rename_i a b h1 h2
    have hs := same_eq h
    subst hs
    let e : Nat → Value := fun n => if n < 100 then r.getD n (.bool false) else q.getD (n - 100) (.bool false)
    have er : ∀ j, j < ks.length → r[j]? = some (e (0 + j)) := fun j hj => by
      show _ = some (if 0 + j < 100 then _ else _)
      rw [Nat.zero_add, if_pos (by omega)]
      exact kAll_at hr j hj
    have eq : ∀ j, j < ks.length → q[j]? = some (e (100 + j)) := fun j hj => by
      show _ = some (if 100 + j < 100 then _ else _)
      rw [if_neg (by omega), Nat.add_sub_cancel_left]
      exact kAll_at hq j hj
    have d1 := kCs_den (β := fun _ => 0) hr er
    have d2 := kCs_den (β := fun _ => 0) (n := 100) hq eq
    have := eqS_ok (ρ := lE e) (β := fun _ => 0) (nilCx_ok _) h1 9997 w
    rw [keyEqT_den h2 hr hq er eq] at this
    show (Op.equalIn (3 + 9997) kt _ _).run P w = _
    change (Op.equalIn (3 + 9997) kt (.agg (denL (lE e) (fun _ => 0) (kCs ks 0)).toArray) (.agg (denL (lE e) (fun _ => 0) (kCs ks 100)).toArray)).run P w = _ at this
    rw [d1, d2] at this
    exact this
  · cases h
/-- What the search finds. -/
def fndV (n : Nat) (k : List Value) (l : List (List Value)) (i : Nat) : Option (Nat × Value) := (fM n k l).map fun j => (i + j, (l.getD j []).getD n (.bool false))
theorem fndV_cons (n : Nat) (k r : List Value) (l : List (List Value)) (i : Nat) : fndV n k (r :: l) i = if sqR (r.take n) k = true then some (i, r.getD n (.bool false)) else fndV n k l (i + 1) := by
  unfold fndV
  rw [fM]
  split
  · rfl
  · cases fM n k l with
    | none => rfl
    | some j =>
      show some (i + (j + 1), _) = some (i + 1 + j, _)
      rw [show i + (j + 1) = i + 1 + j from by omega]
      rfl
theorem kAll_cut {ks : List Kd} {v : Kd} : ∀ {r : List Value}, kAll (ks ++ [v]) r → kAll ks (r.take ks.length) ∧ kOK v (r.getD ks.length (.bool false)) := by
  induction ks with
  | nil =>
    intro r h
    match r, h with
    | [x], h => exact ⟨trivial, h.1⟩
  | cons k ks ih =>
    intro r h
    match r, h with
    | x :: r, h =>
      obtain ⟨h1, h2⟩ := ih h.2
      exact ⟨⟨h.1, h1⟩, h2⟩
theorem find_asking {F : Array Field} (hu : P.underlying kt = some (.struct F)) (h : keyOk P kt ks true = true) (hl : ks.length ≤ 100) {v : Kd} {k : List Value} (hk : kAll ks k) (w : World) :
    ∀ (es : List MapEntry) (l : List (List Value)) (i : Nat), es.map (fun e => (e.key, e.val)) = l.map (entOf true ks.length) → (∀ r ∈ l, kAll (ks ++ [v]) r) → (Instr.findAsking kt (.agg k.toArray) es i).run P w = .ok (fndV ks.length k l i) w
  | [], [], i, _, _ => rfl
  | e :: es, r :: l, i, he, hr => by
    simp only [List.map_cons, List.cons.injEq, Prod.mk.injEq, entOf, if_true] at he
    obtain ⟨⟨e1, e2⟩, he⟩ := he
    obtain ⟨k1, k2⟩ := kAll_cut (hr r (List.mem_cons_self ..))
    rw [fndV_cons]
    unfold Instr.findAsking
    simp only [Sem.run_bind]
    rw [e1, key_equal hu h hk k1 hl, sqR_symm hk k1]
    simp only [Result.andThen_ok]
    by_cases q : sqR (r.take ks.length) k = true
    · rw [if_pos q, if_pos q, e2]
      rfl
    · rw [if_neg q, if_neg q]
      exact find_asking hu h hl hk w es l (i + 1) he fun r hr' => hr r (List.mem_cons_of_mem _ hr')
  | [], _ :: _, _, h, _ => by cases h
  | _ :: _, [], _, h, _ => by cases h
theorem find_now {q q' : IntKind} {v : Kd} {k : Int} : ∀ (es : List MapEntry) (l : List (List Value)) (i : Nat), es.map (fun e => (e.key, e.val)) = l.map (entOf false 1) → (∀ r ∈ l, kAll ([.int q] ++ [v]) r) → Instr.findNow (.int q') (.int q k) es i = some (fndV 1 [.int q k] l i)
  | [], [], i, _, _ => rfl
  | e :: es, r :: l, i, he, hr => by
    simp only [List.map_cons, List.cons.injEq, Prod.mk.injEq, entOf, Bool.false_eq_true, if_false] at he
    obtain ⟨⟨e1, e2⟩, he⟩ := he
    have hr0 := hr r (List.mem_cons_self ..)
    match r, hr0 with
    | [a, b], hr0 =>
      obtain ⟨z, rfl, _⟩ := hr0.1
      have e1 : e.key = .int q z := e1
      have e2 : e.val = b := e2
      rw [fndV_cons]
      unfold Instr.findNow
      have ih := find_now (q' := q') (k := k) es l (i + 1) he fun r hr' => hr r (List.mem_cons_of_mem _ hr')
      simp only [Instr.sameNow, e1, e2, if_true]
      have hq : sqR (([.int q z, b] : List Value).take 1) [.int q k] = (k == z) := by
        show (Nat.beq (kN q) (kN q) && sqI z k && true) = _
        rw [Nat.beq_refl, Bool.true_and, Bool.and_true]
        by_cases c : z = k
        · rw [c, sqI_iff.2 rfl]; simp
        · rw [Bool.eq_false_iff.2 (fun h => c (sqI_iff.1 h))]
          have : ¬ k = z := fun h => c h.symm
          simp [this]
      rw [hq]
      by_cases c : (k == z) = true
      · rw [c]
        rfl
      · rw [Bool.eq_false_iff.2 c]
        exact ih
  | [], _ :: _, _, h, _ => by cases h
  | _ :: _, [], _, h, _ => by cases h
theorem find_key (h : keyOk P kt ks ag = true) (hl : ks.length ≤ 100) {v : Kd} {k : List Value} (hk : kAll ks k) (w : World) {es : List MapEntry} {l : List (List Value)} (he : es.map (fun e => (e.key, e.val)) = l.map (entOf ag ks.length)) (hr : ∀ r ∈ l, kAll (ks ++ [v]) r) :
    (Instr.findKey kt (keyV ag k) es).run P w = .ok (fndV ks.length k l 0) w := by
  have h0 := h
  unfold keyOk at h
  split at h
  · rename_i q
    split at h
    · rename_i q' hu
      match k, hk with
      | [a], hk =>
        obtain ⟨z, rfl, _⟩ := hk.1
        exact Go.MapKept.run_findKey hu (find_now es l 0 he hr)
    · cases h
  · split at h
    · rename_i F hu
      show (Instr.findKey kt (.agg k.toArray) es).run P w = _
      unfold Instr.findKey
      simp only [Sem.run_bind, run_underlying hu, Result.andThen_ok]
      match es, l, he with
      | [], [], _ => rfl
      | e :: es, r :: l, he =>
        have : Instr.findNow (.struct F) (.agg k.toArray) (e :: es) 0 = none := by
          unfold Instr.findNow
          rfl
        rw [this]
        exact find_asking hu h0 hl hk w (e :: es) (r :: l) 0 he hr
      | [], _ :: _, h => cases h
      | _ :: _, [], h => cases h
    · cases h
  · cases h
theorem sameBits_cell {k : Kd} {v : Value} (h : kOK k v) (hp : k ≠ .ptr ∧ k ≠ .sls) (n : Nat) : Instr.sameBits n v v = true := by
  cases k with
  | int q => obtain ⟨z, rfl, _⟩ := h; unfold Instr.sameBits; simp
  | bool => obtain ⟨z, rfl⟩ := h; unfold Instr.sameBits; simp
  | str => obtain ⟨z, rfl, _⟩ := h; unfold Instr.sameBits; exact (Go.MapKept.bytes_beq _ _).2 rfl
  | ptr => exact absurd rfl hp.1
  | sls => exact absurd rfl hp.2
end
end Sy
end Go.Proofs.Ytnmfmjlpfhdgeaa
