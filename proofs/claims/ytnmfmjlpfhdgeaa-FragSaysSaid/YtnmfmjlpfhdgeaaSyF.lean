/- Each operation that only reckons, run with letters: places, parts, structs, builtins; all of them. -/
import Derived.Test.YtnmfmjlpfhdgeaaSyE
namespace Go.Proofs.Ytnmfmjlpfhdgeaa
namespace Sy
open Go Go.RowKit
set_option linter.unusedVariables false
set_option linter.unusedSimpArgs false

theorem resS_ok {ρ : Env} {β : Bn} {P : Program} {c : Cx} (hc : c.ok ρ) {t e : TypeId} (ht : P.underlying t = some (.slice e)) {i : TypeInfo} (hi : P.info? e = some i) {l off : Nat} {len cap : Tm} {lo hi' : Option (IntKind × Tm)} {m : List Tm} {r : SV}
    (h : resS c l off len cap i.size lo hi' = some (m, r)) (hm : Met ρ m) (w : World) :
    (Instr.sliceAt t (.slice (some ⟨β l, off, none⟩) (den ρ len).i.toNat (den ρ cap).i.toNat) (lo.map fun p => Value.int p.1 (den ρ p.2).i) (hi'.map fun p => Value.int p.1 (den ρ p.2).i) none).run P w = .ok (r.den ρ β) w := by
  have he : P.elem t = e := by simp [Program.elem, ht]
  have ht' : P.underlying t = some (.slice (P.elem t)) := by rw [he]; exact ht
  rw [run_sliceAt_slice w t _ _ _ _ ht', run_slice_any w t _ _ _ ht']
  have hsz : (sizeOf (P.elem t)).run P w = .ok i.size w := by rw [he]; simp [sizeOf, typeInfo, hi]
  unfold resS at h
  have hib : ∀ (k : IntKind) (n : Int) (y : Nat) (code : BoundsCode), 0 ≤ n → n ≤ y → (Instr.sliceBound (.int k n) y code).run P w = .ok n.toNat w := fun k n y code h1 h2 => by
    simp [Instr.sliceBound, asIntOf, h1, h2]
  rcases lo with _ | ⟨k, lt⟩
  · simp only [] at h
    injection h with h
    injection h with h1 h2
    subst h1 h2
    have q1 := le_of (need_ok hc hm.l)
    have q2 := le_of (need_ok hc hm.r)
    change (0 : Int) ≤ _ at q1
    rcases hi' with _ | ⟨k', u⟩
    · simp only [Option.map_none, Instr.sliceBounds, Sem.run_bind, Sem.run_pure, Result.andThen_ok, hsz, sliced]
      show Result.ok (Value.slice _ _ _) w = Result.ok (Value.slice _ _ _) w
      congr 2
      simp [Addr.add]
    · simp only [] at q1 q2
      have hb := hib k' (den ρ u).i (den ρ cap).i.toNat .sliceAcap q1 (by omega)
      simp only [Option.map_none, Option.map_some, Instr.sliceBounds, Sem.run_bind, Sem.run_pure, Result.andThen_ok, hsz, sliced]
      simp only [if_true, hb, Result.andThen_ok, hsz, Sem.run_pure]
      show Result.ok (Value.slice _ _ _) w = Result.ok (Value.slice _ _ _) w
      congr 2
      simp [Addr.add]
  · simp only [] at h
    split at h
    · rename_i n hl
      have hl := isLit_eq hl
      subst hl
      split at h
      · rename_i q
        simp only [Bool.and_eq_true] at q
        have q0 : 0 ≤ n := by simpa [leI] using q.1
        have qc := lt_of (sure_ok hc q.2)
        change n < _ at qc
        injection h with h
        injection h with h1 h2
        subst h1 h2
        have q1 := le_of (need_ok hc hm.l)
        have q2 := le_of (need_ok hc hm.r)
        change n ≤ _ at q1
        have hne : ¬ ((den ρ cap).i.toNat = n.toNat) := by omega
        have fin : ∀ (u : Tm), n ≤ (den ρ u).i → Value.slice (if (den ρ cap).i.toNat = n.toNat then some (⟨β l, off, none⟩ : Addr) else (some (⟨β l, off, none⟩ : Addr)).map (·.add (n.toNat * i.size))) ((den ρ u).i.toNat - n.toNat) ((den ρ cap).i.toNat - n.toNat) =
            C.den ρ β (.slc l (off + n.toNat * i.size) (mkSub u (.il n)) (mkSub cap (.il n))) := fun u hu => by
          rw [if_neg hne]
          simp only [Option.map_some, Addr.add_mid, C.den]
          congr 1
          · rw [mkSub_ok]
            show _ = ((den ρ u).i - n).toNat
            omega
          · rw [mkSub_ok]
            show _ = ((den ρ cap).i - n).toNat
            omega
        rcases hi' with _ | ⟨k', u⟩
        · simp only [] at q1 q2
          have hb := hib k n (den ρ len).i.toNat .sliceB q0 (by omega)
          show ((Instr.sliceBounds true _ _ (some (.int k n)) none none).run P w).andThen _ = _
          simp only [Instr.sliceBounds, Sem.run_bind, Sem.run_pure, Result.andThen_ok, Option.isSome_none, Bool.false_eq_true, if_false, hb, hsz, sliced]
          exact congrArg (fun v => Result.ok v w) (fin len q1)
        · simp only [] at q1 q2
          have hb := hib k' (den ρ u).i (den ρ cap).i.toNat .sliceAcap (by omega) (by omega)
          have hb2 := hib k n (den ρ u).i.toNat .sliceB q0 (by omega)
          show ((Instr.sliceBounds true _ _ (some (.int k n)) (some (.int k' (den ρ u).i)) none).run P w).andThen _ = _
          simp only [Instr.sliceBounds, Sem.run_bind, Sem.run_pure, Result.andThen_ok, Option.isSome_none, Bool.false_eq_true, if_false, if_true, hb, hb2, hsz, sliced]
          exact congrArg (fun v => Result.ok v w) (fin u q1)
      · cases h
    · cases h
theorem sliceS_ok {ρ : Env} {β : Bn} {P : Program} {c : Cx} (hc : c.ok ρ) {t : TypeId} {x : SV} {lo hi mx : Option SV} {m : List Tm} {r : SV} (h : sliceS P c t x lo hi mx = some (m, r)) (hm : Met ρ m) (w : World) :
    (Instr.sliceAt t (x.den ρ β) (lo.map (SV.den ρ β)) (hi.map (SV.den ρ β)) (mx.map (SV.den ρ β))).run P w = .ok (r.den ρ β) w := by
  unfold sliceS at h
  split at h
  · rename_i lo' hi' h1 h2
    rw [optI_ok h1, optI_ok h2]
    split at h
    · rename_i s ht
      exact cutS_ok hc ht h hm w
    · rename_i e l off len cap ht
      split at h
      · rename_i i hi
        exact resS_ok hc ht hi h hm w
      · cases h
    · cases h
  · cases h

/-! Places. -/
def fieldAtS (P : Program) (s : TypeId) (x : SV) (f : Nat) : PR :=
  match P.underlying s, x with
  | some (.struct F), .one (.c (.ptr l off)) =>
    match F[f]? with
    | some fd => match P.info? fd.type with
      | some i => if Nat.beq i.size 0 then none else some ([], .one (.c (.ptr l (off + fd.offset))))
      | none => none
    | none => none
  | _, _ => none
theorem fieldAtS_ok {ρ : Env} {β : Bn} {P : Program} {s : TypeId} {x : SV} {f : Nat} {m : List Tm} {r : SV} (h : fieldAtS P s x f = some (m, r)) (w : World) : (Instr.fieldAt s (x.den ρ β) f).run P w = .ok (r.den ρ β) w := by
  unfold fieldAtS at h
  split at h
  · rename_i F l off hu
    split at h
    · rename_i fd hf
      split at h
      · rename_i i hi
        split at h
        · cases h
        · rename_i hz
          injection h with h
          injection h with h1 h2
          subst h1 h2
          have hz' : i.size ≠ 0 := fun e => hz (by rw [e]; rfl)
          show (Instr.fieldAt s (.pointer (some ⟨β l, off, none⟩)) f).run P w = .ok (.pointer (some ⟨β l, off + fd.offset, none⟩)) w
          simp only [Instr.fieldAt, Sem.run_bind, run_underlying hu, Result.andThen_ok, hf, Instr.sureAddr, Sem.run_pure, fieldPlace, sizeOf, typeInfo, run_program, hi, hz', if_false, Addr.add_mid]
      · cases h
    · cases h
  · cases h
def fieldS (P : Program) (t : TypeId) (x : SV) (f : Nat) : PR :=
  match P.underlying t, x with
  | some (.struct F), .one (.agg cs) =>
    match F[f]? with
    | some fd => (partS P fd.type cs fd.offset).map fun v => ([], .one v)
    | none => none
  | _, _ => none
theorem fieldS_ok {ρ : Env} {β : Bn} {P : Program} {t : TypeId} {x : SV} {f : Nat} {m : List Tm} {r : SV} (h : fieldS P t x f = some (m, r)) (w : World) : (Instr.field t (x.den ρ β) f).run P w = .ok (r.den ρ β) w := by
  unfold fieldS at h
  split at h
  · rename_i F cs hu
    split at h
    · rename_i fd hf
      cases hp : partS P fd.type cs fd.offset with
      | none => rw [hp] at h; cases h
      | some v =>
        rw [hp] at h
        injection h with h
        injection h with h1 h2
        subst h1 h2
        show (Instr.field t (.agg (denL ρ β cs).toArray) f).run P w = _
        simp only [Instr.field, Sem.run_bind, run_underlying hu, Result.andThen_ok, hf, asAgg, Sem.run_pure]
        exact partS_ok hp w
    · cases h
  · cases h
/-- An index that is a literal. -/
def idxLit : SV → Option Int
  | .one (.c (.int _ t)) => isLit t
  | _ => none
def indexAtS (P : Program) (c : Cx) (t : TypeId) (x ix : SV) : PR :=
  match idxLit ix with
  | some n =>
    if leI 0 n then
      match P.underlying t, x with
      | some (.array len e), .one (.c (.ptr l off)) =>
        match P.info? e with
        | some i => if leI (n + 1) len then some ([], .one (.c (.ptr l (off + n.toNat * i.size)))) else none
        | none => none
      | some (.slice e), .one (.c (.slc l off len _)) =>
        match P.info? e with
        | some i => some (need c (.lt (.il n) len), .one (.c (.ptr l (off + n.toNat * i.size))))
        | none => none
      | _, _ => none
    else none
  | none => none
theorem idxLit_ok {ρ : Env} {β : Bn} {x : SV} {n : Int} (h : idxLit x = some n) : ∃ k, x.den ρ β = .int k n := by
  unfold idxLit at h
  split at h
  · rename_i k t
    rw [isLit_eq h]
    exact ⟨k, rfl⟩
  · cases h
theorem indexAtS_ok {ρ : Env} {β : Bn} {P : Program} {c : Cx} (hc : c.ok ρ) {t : TypeId} {x ix : SV} {m : List Tm} {r : SV} (h : indexAtS P c t x ix = some (m, r)) (hm : Met ρ m) (w : World) :
    (Instr.indexAt t (x.den ρ β) (ix.den ρ β)).run P w = .ok (r.den ρ β) w := by
  unfold indexAtS at h
  split at h
  · rename_i n hn
    obtain ⟨k, hk⟩ := idxLit_ok (ρ := ρ) (β := β) hn
    rw [hk]
    split at h
    · rename_i h0
      have h0 : 0 ≤ n := by simpa [leI] using h0
      split at h
      · rename_i len e l off hu
        split at h
        · rename_i i hi
          split at h
          · rename_i hlt
            have hlt : n < len := by simp [leI] at hlt; omega
            injection h with h
            injection h with h1 h2
            subst h1 h2
            show (Instr.indexAt t (.pointer (some ⟨β l, off, none⟩)) (.int k n)).run P w = _
            have hL : P.arrayLen t = len := by simp [Program.arrayLen, hu]
            have hE : P.elem t = e := by simp [Program.elem, hu]
            rw [run_indexAt_array w t _ k n (by rw [hL, hE]; exact hu), hL, hE, if_pos ⟨h0, hlt⟩]
            simp only [sizeOf, typeInfo, Sem.run_bind, run_program, Result.andThen_ok, hi, Sem.run_pure, Addr.add_mid]
            rfl
          · cases h
        · cases h
      · rename_i e l off len cap hu
        split at h
        · rename_i i hi
          injection h with h
          injection h with h1 h2
          subst h1 h2
          have hlt := lt_of (need_ok hc hm)
          change n < _ at hlt
          show (Instr.indexAt t (.slice (some ⟨β l, off, none⟩) (den ρ len).i.toNat _) (.int k n)).run P w = _
          have hE : P.elem t = e := by simp [Program.elem, hu]
          rw [run_indexAt_slice w t _ _ _ k n (by rw [hE]; exact hu), hE, if_pos ⟨h0, by omega⟩]
          simp only [sizeOf, typeInfo, Sem.run_bind, run_program, Result.andThen_ok, hi, Sem.run_pure, Addr.add_mid]
          rfl
        · cases h
      · cases h
    · cases h
  · cases h
def indexS (P : Program) (c : Cx) (t : TypeId) (x ix : SV) : PR :=
  match P.underlying t, x, ix with
  | some .string, .one (.c (.str s)), .one (.c (.int _ i)) => sI (need c (.le (.il 0) i) ++ need c (.lt i (mkLen c s))) .u8 (mkByte c s i)
  | some (.array len e), .one (.agg cs), ix =>
    match idxLit ix, P.info? e with
    | some n, some i => if leI 0 n && leI (n + 1) len then (partS P e cs (n.toNat * i.size)).map fun v => ([], .one v) else none
    | _, _ => none
  | _, _, _ => none
theorem indexS_ok {ρ : Env} {β : Bn} {P : Program} {c : Cx} (hc : c.ok ρ) {t : TypeId} {x ix : SV} {m : List Tm} {r : SV} (h : indexS P c t x ix = some (m, r)) (hm : Met ρ m) (w : World) :
    (Instr.index t (x.den ρ β) (ix.den ρ β)).run P w = .ok (r.den ρ β) w := by
  unfold indexS at h
  split at h
  · rename_i s k i hu
    injection h with h
    injection h with h1 h2
    subst h1 h2
    have q1 := le_of (need_ok hc hm.l)
    have q2 := lt_of (need_ok hc hm.r)
    change (0 : Int) ≤ _ at q1
    rw [mkLen_ok hc] at q2
    show (Instr.index t (.string (den ρ s).s) (.int k (den ρ i).i)).run P w = _
    rw [run_index_string w t _ k _ hu, dif_pos ⟨q1, q2⟩]
    refine res_int ?_
    rw [mkByte_ok hc]
    unfold byteOf
    have hlt : (den ρ i).i.toNat < (den ρ s).s.data.toList.length := by simp; omega
    rw [List.getD, List.getElem?_eq_getElem hlt]
    rfl
  · rename_i len e cs hu
    split at h
    · rename_i n i hn hi
      obtain ⟨k, hk⟩ := idxLit_ok (ρ := ρ) (β := β) hn
      rw [hk]
      split at h
      · rename_i hb
        simp [leI] at hb
        cases hp : partS P e cs (n.toNat * i.size) with
        | none => rw [hp] at h; cases h
        | some v =>
          rw [hp] at h
          injection h with h
          injection h with h1 h2
          subst h1 h2
          show (Instr.index t (.agg (denL ρ β cs).toArray) (.int k n)).run P w = _
          simp only [Instr.index, asIntOf, Sem.run_bind, Sem.run_pure, Result.andThen_ok, run_underlying hu]
          rw [if_pos ⟨hb.1, by omega⟩]
          simp only [sizeOf, typeInfo, Sem.run_bind, run_program, Result.andThen_ok, hi, Sem.run_pure]
          exact partS_ok hp w
      · cases h
    · cases h
  · cases h
def extractS (x : SV) (n : Nat) : PR :=
  match x with
  | .tup l => (l[n]?).map fun v => ([], .one v)
  | _ => none
theorem extractS_ok {ρ : Env} {β : Bn} {P : Program} {x : SV} {n : Nat} {m : List Tm} {r : SV} (h : extractS x n = some (m, r)) (w : World) : (Instr.extract (x.den ρ β) n).run P w = .ok (r.den ρ β) w := by
  unfold extractS at h
  split at h
  · rename_i l
    cases hl : l[n]? with
    | none => rw [hl] at h; cases h
    | some v =>
      rw [hl] at h
      injection h with h
      injection h with h1 h2
      subst h1 h2
      have : (l.map (V1.den ρ β)).toArray[n]? = some (v.den ρ β) := by simp [hl]
      simp only [SV.den, Instr.extract, this]
      rfl
  · cases h

/-! A struct, an array, built of its parts. -/
def V1.cs : V1 → List C
  | .c x => [x]
  | .agg l => l
theorem V1.cells_den {ρ : Env} (hρ : ρ.good) (β : Bn) (x : V1) : (x.den ρ β).cells = (denL ρ β x.cs).toArray := by
  cases x with
  | agg l => rfl
  | c x =>
    have h := x.one hρ β
    show (x.den ρ β).cells = #[x.den ρ β]
    generalize x.den ρ β = v at h
    cases v <;> first | rfl | cases h
def over (cs : List C) (off : Nat) (vs : List C) : List C := cs.take off ++ (vs ++ cs.drop (off + vs.length))
def fillS (place : Nat → Option (Nat × Nat)) (cs : List C) : List (Nat × V1) → Option (List C)
  | [] => some cs
  | (i, v) :: rest =>
    match place i with
    | none => none
    | some (off, size) => if Nat.beq v.cs.length size && Nat.ble (off + v.cs.length) cs.length then fillS place (over cs off v.cs) rest else none
theorem fold_over : ∀ (vs : List Value) (cells : Array Value) (off k : Nat), off + k + vs.length ≤ cells.size →
    ((vs.zipIdx k).foldl (fun cs (p : Value × Nat) => cs.setIfInBounds (off + p.2) p.1) cells) = (cells.toList.take (off + k) ++ (vs ++ cells.toList.drop (off + k + vs.length))).toArray
  | [], cells, off, k, h => by simp
  | v :: vs, cells, off, k, h => by
    simp only [List.zipIdx_cons, List.foldl_cons, List.length_cons] at h ⊢
    rw [fold_over vs (cells.setIfInBounds (off + k) v) off (k + 1) (by simp; omega)]
    congr 1
    have hlt : off + k < cells.toList.length := by simp; omega
    rw [Array.toList_setIfInBounds, show off + (k + 1) = off + k + 1 from by omega, List.take_succ_eq_append_getElem (by simpa using hlt), List.take_set_of_le (Nat.le_refl _)]
    rw [List.getElem_set_self, List.append_assoc, List.singleton_append]
    congr 3
    rw [List.drop_set_of_lt (by omega)]
    congr 1
    omega
theorem fillS_ok {ρ : Env} (hρ : ρ.good) {β : Bn} {place : Nat → Option (Nat × Nat)} : ∀ {l : List (Nat × V1)} {cs r : List C}, fillS place cs l = some r →
    Instr.fill place (denL ρ β cs).toArray (l.map fun p => (p.1, p.2.den ρ β)) = some (denL ρ β r).toArray
  | [], cs, r, h => by injection h with h; subst h; rfl
  | (i, v) :: rest, cs, r, h => by
    simp only [fillS] at h
    split at h
    · cases h
    · rename_i off size hp
      split at h
      · rename_i q
        simp only [Bool.and_eq_true] at q
        have q1 := Nat.eq_of_beq_eq_true q.1
        have q2 := Nat.le_of_ble_eq_true q.2
        have ih := fillS_ok hρ (β := β) h
        simp only [List.map_cons, Instr.fill, hp, V1.cells_den hρ]
        rw [if_neg (by simp [denL_len]; omega)]
        rw [← ih]
        congr 1
        rw [← Array.foldl_toList, Array.toList_zipIdx]
        have := fold_over (denL ρ β v.cs) (denL ρ β cs).toArray off 0 (by simp [denL_len]; omega)
        simp only [Nat.add_zero] at this
        rw [this]
        simp only [over, denL_app, denL_take, denL_drop, denL_len]
      · cases h
def builtS (P : Program) (t : TypeId) (parts : List (Nat × V1)) : Option (List C) :=
  match P.info? t, P.underlying t with
  | some it, some (.array _ e) =>
    match it.zero, P.info? e with
    | some z, some ie => match ofCs z.cells.toList with
      | some zs => fillS (fun i => some (i * ie.size, ie.size)) zs parts
      | none => none
    | _, _ => none
  | some it, some (.struct fields) =>
    match it.zero, fields.toList.mapM (fun f => (P.info? f.type).map fun i => (f.offset, i.size)) with
    | some z, some places => match ofCs z.cells.toList with
      | some zs => fillS (places.toArray[·]?) zs parts
      | none => none
    | _, _ => none
  | _, _ => none
theorem builtS_ok {ρ : Env} (hρ : ρ.good) {β : Bn} {P : Program} {t : TypeId} {parts : List (Nat × V1)} {r : List C} (h : builtS P t parts = some r) : P.built t (parts.map fun p => (p.1, p.2.den ρ β)) = some (denL ρ β r).toArray := by
  unfold builtS at h
  unfold Program.built
  split at h
  · rename_i it n e h1 h2
    rw [h1, h2]
    dsimp only
    split at h
    · rename_i z ie h3 h4
      rw [h3, h4]
      dsimp only
      split at h
      · rename_i zs h5
        have h6 := ofCs_ok (ρ := ρ) (β := β) h5
        have := fillS_ok hρ (β := β) h
        rw [h6] at this
        simpa using this
      · cases h
    · cases h
  · rename_i it F h1 h2
    rw [h1, h2]
    dsimp only
    split at h
    · rename_i z places h3 h4
      rw [h3, h4]
      dsimp only
      split at h
      · rename_i zs h5
        have h6 := ofCs_ok (ρ := ρ) (β := β) h5
        have := fillS_ok hρ (β := β) h
        rw [h6] at this
        simpa using this
      · cases h
    · cases h
  · cases h
end Sy
end Go.Proofs.Ytnmfmjlpfhdgeaa
