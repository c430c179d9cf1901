/- Maps: told as rows of the key's cells and the value's cell, in the order in which they lie. -/
import Derived.Test.YtnmfmjlpfhdgeaaSyV
import Derived.MapKept
namespace Go.Proofs.Ytnmfmjlpfhdgeaa
namespace Sy
open Go Go.RowKit
set_option linter.unusedVariables false
set_option linter.unusedSimpArgs false

theorem sqI_iff {a b : Int} : sqI a b = true ↔ a = b := by
  cases a <;> cases b <;> simp [sqI] <;> omega
theorem kN_inj {a b : IntKind} (h : kN a = kN b) : a = b := by cases a <;> cases b <;> simp_all [kN]
theorem bytes_ext {s t : ByteArray} (h : s.data.toList = t.data.toList) : s = t := by
  apply ByteArray.ext
  exact Array.ext' h
theorem sqV_iff {k : Kd} {v u : Value} (hv : kOK k v) (hu : kOK k u) : sqV v u = true ↔ v = u := by
  cases k with
  | int k =>
    obtain ⟨m, rfl, _⟩ := hv
    obtain ⟨n, rfl, _⟩ := hu
    simp [sqV, sqI_iff]
  | bool =>
    obtain ⟨m, rfl⟩ := hv
    obtain ⟨n, rfl⟩ := hu
    simp [sqV]
  | str =>
    obtain ⟨m, rfl, _⟩ := hv
    obtain ⟨n, rfl, _⟩ := hu
    simp only [sqV, beq_iff_eq, Value.string.injEq]
    exact ⟨bytes_ext, fun h => by rw [h]⟩
  | ptr =>
    obtain ⟨m, rfl⟩ := hv
    obtain ⟨n, rfl⟩ := hu
    simp [sqV]
  | sls =>
    obtain ⟨a, n, c, rfl⟩ := hv
    obtain ⟨b, m, d, rfl⟩ := hu
    simp [sqV]
theorem sqR_iff : ∀ {lv : List Kd} {r q : List Value}, kAll lv r → kAll lv q → (sqR r q = true ↔ r = q)
  | [], [], [], _, _ => by simp [sqR]
  | k :: lv, v :: r, u :: q, hr, hq => by
    simp only [sqR, Bool.and_eq_true, sqV_iff hr.1 hq.1, sqR_iff hr.2 hq.2, List.cons.injEq]
  | [], _ :: _, _, h, _ => h.elim
  | [], [], _ :: _, _, h => h.elim
  | _ :: _, [], _, h, _ => h.elim
  | _ :: _, _ :: _, [], _, h => h.elim
/-! Keys. -/
def kC : Kd → Nat → C
  | .int q, n => .int q (.iv n)
  | .bool, n => .bool (.bv n)
  | .str, n => .str (.sv n)
  | .ptr, n => .ptv (.iv n)
  | .sls, n => .vls (.cv n)
def kCs : List Kd → Nat → List C
  | [], _ => []
  | k :: l, n => kC k n :: kCs l (n + 1)
/-- Letters for the cells of a sequence. -/
def lE (e : Nat → Value) : Env where
  i := fun n => match e n with
    | .int _ z => z
    | .pointer (some a) => (a.block : Int)
    | _ => 0
  b := fun n => match e n with
    | .bool b => b
    | _ => false
  s := fun n => match e n with
    | .string s => s
    | _ => none8
  f := fun _ x _ _ => x
  v := fun _ => .bool false
  u := fun _ => .bool false
  c := fun n => [[slV (e n)]]
theorem kC_den {β : Bn} {k : Kd} {n : Nat} {e : Nat → Value} (h : kOK k (e n)) : (kC k n).den (lE e) β = e n := by
  cases k with
  | int q =>
    obtain ⟨z, hz, _⟩ := h
    show Value.int q ((lE e).i n) = _
    simp only [lE, hz]
  | bool =>
    obtain ⟨z, hz⟩ := h
    show Value.bool ((lE e).b n) = _
    simp only [lE, hz]
  | str =>
    obtain ⟨z, hz, _⟩ := h
    show Value.string ((lE e).s n) = _
    simp only [lE, hz]
  | ptr =>
    obtain ⟨z, hz⟩ := h
    show Value.pointer (some ⟨((lE e).i n).toNat, 0, none⟩) = _
    simp only [lE, hz, Int.toNat_natCast]
  | sls =>
    obtain ⟨a, m, c, hz⟩ := h
    show slV (slV (e n)) = _
    rw [hz]
    rfl
theorem kCs_den {β : Bn} {e : Nat → Value} : ∀ {ks : List Kd} {r : List Value} {n : Nat}, kAll ks r → (∀ j, j < ks.length → r[j]? = some (e (n + j))) → denL (lE e) β (kCs ks n) = r
  | [], [], n, _, _ => rfl
  | k :: ks, v :: r, n, h, he => by
    have h0 := he 0 (Nat.succ_pos _)
    injection h0 with h0
    have h0 : v = e n := h0
    subst h0
    show (kC k n).den (lE e) β :: denL (lE e) β (kCs ks (n + 1)) = _
    rw [kC_den h.1, kCs_den (r := r) h.2 fun j hj => by
      have := he (j + 1) (Nat.succ_lt_succ hj)
      rw [List.getElem?_cons_succ] at this
      rw [this, Nat.add_assoc n 1 j, Nat.add_comm 1 j]]
  | [], _ :: _, _, h, _ => h.elim
  | _ :: _, [], _, h, _ => h.elim
def nilCx : Cx := ⟨[], []⟩
theorem nilCx_ok (ρ : Env) : nilCx.ok ρ := ⟨fun _ h => (by cases h), fun _ h => (by cases h)⟩
def eqK : Kd → Nat → Nat → Option Tm
  | .int _, a, b => some (mkB nilCx (.eq (.iv a) (.iv b)))
  | .bool, a, b => some (mkB nilCx (.bq (.bv a) (.bv b)))
  | .str, a, b => some (mkSeq nilCx (.sv a) (.sv b))
  | .ptr, _, _ => none
  | .sls, _, _ => none
def keyEqT : List Kd → Nat → Option Tm
  | [], _ => some (.bl true)
  | k :: l, n => match eqK k n (100 + n), keyEqT l (n + 1) with
    | some s, some t => some (mkAnd s t)
    | _, _ => none
theorem eqK_den {e : Nat → Value} {k : Kd} {a b : Nat} {t : Tm} (h : eqK k a b = some t) (ha : kOK k (e a)) (hb : kOK k (e b)) : (den (lE e) t).b = sqV (e a) (e b) := by
  cases k with
  | int q =>
    injection h with h
    subst h
    obtain ⟨x, hx, _⟩ := ha
    obtain ⟨y, hy, _⟩ := hb
    rw [mkB_ok (nilCx_ok _)]
    show ((lE e).i a == (lE e).i b) = _
    simp only [lE, hx, hy, sqV, Nat.beq_refl, Bool.true_and]
    by_cases q : x = y
    · rw [q, sqI_iff.2 rfl]
      simp
    · rw [Bool.eq_false_iff.2 (fun h => q (sqI_iff.1 h))]
      simp [q]
  | bool =>
    injection h with h
    subst h
    obtain ⟨x, hx⟩ := ha
    obtain ⟨y, hy⟩ := hb
    rw [mkB_ok (nilCx_ok _)]
    show ((lE e).b a == (lE e).b b) = _
    simp only [lE, hx, hy, sqV]
  | str =>
    injection h with h
    subst h
    obtain ⟨x, hx, _⟩ := ha
    obtain ⟨y, hy, _⟩ := hb
    rw [mkSeq_ok (nilCx_ok _)]
    show (((lE e).s a).toList == ((lE e).s b).toList) = _
    simp only [lE, hx, hy, sqV, ByteArray.toList_eq]
  | ptr => cases h
  | sls => cases h
theorem keyEqT_den {e : Nat → Value} : ∀ {ks : List Kd} {r q : List Value} {n : Nat} {t : Tm}, keyEqT ks n = some t → kAll ks r → kAll ks q → (∀ j, j < ks.length → r[j]? = some (e (n + j))) → (∀ j, j < ks.length → q[j]? = some (e (100 + n + j))) → (den (lE e) t).b = sqR r q
  | [], [], [], n, t, h, _, _, _, _ => by
    injection h with h
    subst h
    rfl
  | k :: ks, v :: r, u :: q, n, t, h, hr, hq, er, eq => by
    simp only [keyEqT] at h
    split at h
    · rename_i s t' h1 h2
      injection h with h
      subst h
      have r0 := er 0 (Nat.succ_pos _)
      injection r0 with r0
      have r0 : v = e n := r0
      have q0 := eq 0 (Nat.succ_pos _)
      injection q0 with q0
      have q0 : u = e (100 + n) := q0
      subst r0 q0
      rw [mkAnd_ok, eqK_den h1 hr.1 hq.1, keyEqT_den (r := r) (q := q) h2 hr.2 hq.2 (fun j hj => by
        have := er (j + 1) (Nat.succ_lt_succ hj)
        rw [List.getElem?_cons_succ] at this
        rw [this, Nat.add_assoc n 1 j, Nat.add_comm 1 j]) (fun j hj => by
        have := eq (j + 1) (Nat.succ_lt_succ hj)
        rw [List.getElem?_cons_succ] at this
        rw [this, show 100 + n + (j + 1) = 100 + (n + 1) + j from by omega])]
      rfl
    · cases h
  | [], _ :: _, _, _, _, _, h, _, _, _ => h.elim
  | [], [], _ :: _, _, _, _, _, h, _, _ => h.elim
  | _ :: _, [], _, _, _, _, h, _, _, _ => h.elim
  | _ :: _, _ :: _, [], _, _, _, _, h, _, _ => h.elim
/-- May a value be a key, as it is? -/
def ckLeaf (P : Program) (t : TypeId) (v : V1) : Bool := match P.underlying t, v with
  | some (.int _), .c (.int _ _) => true
  | some .bool, .c (.bool _) => true
  | some .string, .c (.str _) => true
  | _, _ => false
def ckFs (P : Program) (cs : List C) : List Field → Bool
  | [] => true
  | f :: fs => (match partS P f.type cs f.offset with
    | some v => ckLeaf P f.type v
    | none => false) && ckFs P cs fs
section
variable {P : Program} {ρ : Env} {β : Bn}
theorem ckLeaf_run {t : TypeId} {v : V1} (h : ckLeaf P t v = true) (em : Bool) (n : Nat) (w : World) : (Instr.checkKey em (n + 1) t (v.den ρ β)).run P w = .ok () w := by
  unfold ckLeaf at h
  split at h
  · rename_i hu
    unfold Instr.checkKey
    simp only [Sem.run_bind, run_underlying hu, Result.andThen_ok, V1.den, C.den]
    rfl
  · rename_i hu
    unfold Instr.checkKey
    simp only [Sem.run_bind, run_underlying hu, Result.andThen_ok, V1.den, C.den]
    rfl
  · rename_i hu
    unfold Instr.checkKey
    simp only [Sem.run_bind, run_underlying hu, Result.andThen_ok, V1.den, C.den]
    rfl
  · cases h
theorem ckFs_run {cs : List C} (em : Bool) (n : Nat) (w : World) : ∀ {fs : List Field}, ckFs P cs fs = true → (forIn fs PUnit.unit fun (f : Field) (_ : PUnit) => (if f.name ≠ "_" then (do
      let a ← part f.type (denL ρ β cs).toArray f.offset
      Instr.checkKey em (n + 1) f.type a
      pure (ForInStep.yield PUnit.unit)) else pure (ForInStep.yield PUnit.unit) : Sem (ForInStep PUnit))).run P w = .ok PUnit.unit w
  | [], _ => rfl
  | f :: fs, h => by
    simp only [ckFs, Bool.and_eq_true] at h
    obtain ⟨h1, h2⟩ := h
    split at h1
    · rename_i v hv
      have e1 := partS_ok (ρ := ρ) (β := β) hv w
      have e2 := ckLeaf_run (ρ := ρ) (β := β) h1 em n w
      have ih := ckFs_run em n w h2
      rw [List.forIn_cons]
      simp only [Sem.run_bind]
      by_cases hn : f.name ≠ "_"
      · simp only [if_pos hn, Sem.run_bind, e1, e2, Result.andThen_ok, Sem.run_pure]
        exact ih
      · simp only [if_neg hn, Sem.run_bind, Result.andThen_ok, Sem.run_pure]
        exact ih
    · cases h1
end
def keyV (ag : Bool) (r : List Value) : Value := if ag then .agg r.toArray else r.headD (.bool false)
/-- Are keys of that type of these kinds? -/
def keyOk (P : Program) (kt : TypeId) (ks : List Kd) (ag : Bool) : Bool := match ag, ks with
  | false, [.int q] => match P.underlying kt with
    | some (.int q') => Nat.beq (kNo q) (kNo q')
    | _ => false
  | true, ks => match P.underlying kt with
    | some (.struct F) => ckFs P (kCs ks 0) F.toList && (match eqS P nilCx 3 kt (.agg (kCs ks 0)) (.agg (kCs ks 100)), keyEqT ks 0 with
      | some a, some b => same a b
      | _, _ => false)
    | _ => false
  | _, _ => false
end Sy
end Go.Proofs.Ytnmfmjlpfhdgeaa
