/- Tables in a run with letters: their parts and places, append; all operations on them. -/
import Derived.Test.YtnmfmjlpfhdgeaaSyU
namespace Go.Proofs.Ytnmfmjlpfhdgeaa
namespace Sy
open Go Go.RowKit Go.BigFrame
set_option linter.unusedVariables false
set_option linter.unusedSimpArgs false

def tabFind (hp : List Bk) (l : Nat) : Option (List Kd × Tm) :=
  match find l hp with
  | some b => match b.str, b.x with
    | none, .tab lv t => some (lv, t)
    | _, _ => none
  | none => none
theorem tabFind_ok {ρ : Env} {β : Bn} {w : World} {hp : List Bk} {l : Nat} {lv : List Kd} {t : Tm} (h : tabFind hp l = some (lv, t)) (hb : ∀ b ∈ hp, BkOk ρ β w b) : ∃ ty, RowT w (β l) (β (l + 1)) ty lv (den ρ t).c := by
  unfold tabFind at h
  split at h
  · rename_i b hf
    have hm := find_mem hf
    have hB := hb b hm.1
    unfold BkOk at hB
    split at h
    · rename_i lv' t' hs hx
      injection h with h
      injection h with h1 h2
      subst h1 h2
      rw [hs, hx, hm.2] at hB
      exact ⟨_, hB⟩
    · cases h
  · cases h
def inTab (c : Cx) (t off len : Tm) : List Tm := need c (.le (.il 0) off) ++ (need c (.le (.il 0) len) ++ need c (.le (mkAdd off len) (mkTL c t)))
theorem inTab_ok {ρ : Env} {c : Cx} (hc : c.ok ρ) {t off len : Tm} (h : Met ρ (inTab c t off len)) : 0 ≤ (den ρ off).i ∧ 0 ≤ (den ρ len).i ∧ (den ρ off).i + (den ρ len).i ≤ ((den ρ t).c.length : Int) := by
  have h1 := le_of (need_ok hc h.l)
  have h2 := le_of (need_ok hc h.r.l)
  have h3 := le_of (need_ok hc h.r.r)
  rw [mkAdd_ok, mkTL_ok hc] at h3
  exact ⟨h1, h2, h3⟩
/-- The value of a part of a table; z: where its place is told to be if nothing lies behind it in the block. -/
def sltZ (g c m o n z : Nat) : Value := if c = 0 then .slice none 0 0 else .slice (some ⟨g, (if c = o then z else o) * m, none⟩) n (c - o)
theorem slt_den (ρ : Env) (β : Bn) (l m : Nat) (off len an : Tm) : C.den ρ β (.slt l m off len an) = sltZ (β l) (β (l + 1)) m (den ρ off).i.toNat (den ρ len).i.toNat (den ρ an).i.toNat := rfl
theorem sltZ_cut {g c m o n L H z z' : Nat} (h1 : o + n ≤ c) (h2 : L ≤ H) (h3 : H ≤ n) (hs : (L = 0 ∧ z' = z) ∨ (o = 0 ∧ z' = 0) ∨ L < n ∨ (0 < L ∧ z' = o)) :
    ∃ (a : Option Addr) (cap : Nat), sltZ g c m o n z = .slice a n cap ∧ n ≤ cap ∧ sliced a L H cap m = sltZ g c m (o + L) (H - L) z' := by
  unfold sltZ
  by_cases hc : c = 0
  · rw [if_pos hc, if_pos hc]
    have : n = 0 := by omega
    have hL : L = 0 := by omega
    have hH : H = 0 := by omega
    subst this hL hH
    exact ⟨none, 0, rfl, Nat.le_refl _, rfl⟩
  · rw [if_neg hc, if_neg hc]
    refine ⟨_, _, rfl, by omega, ?_⟩
    unfold sliced
    by_cases hL : L = 0
    · subst hL
      simp only [Nat.add_zero, Nat.zero_mul, Nat.sub_zero, Option.map_some, Go.Addr.add_zero']
      by_cases ho : c = o
      · have hz : z' = z := by
          rcases hs with h | h | h | h <;> omega
        rw [if_pos ho, if_pos ho, hz]
        split <;> rfl
      · rw [if_neg ho, if_neg ho]
        split <;> rfl
    · have ho : c ≠ o := by omega
      rw [if_neg ho]
      by_cases hcl : c - o = L
      · have hz : z' = o := by
          rcases hs with h | h | h | h <;> omega
        subst hz
        rw [if_pos hcl, if_pos (by omega)]
        congr 1
        omega
      · rw [if_neg hcl, if_neg (by omega), Option.map_some, Addr.add_mid]
        congr 1
        · rw [Nat.add_mul]
        · omega
def tabCut (P : Program) (c : Cx) (hp : List Bk) (t : TypeId) (l m : Nat) (off len an : Tm) (lo hi : Option (IntKind × Tm)) : PR :=
  match tabFind hp l, P.underlying t with
  | some (lv, s), some (.slice e) =>
    match P.info? e, anOf c off len an (loOf lo) with
    | some i, some z =>
      if Nat.beq i.size m then
        some (inTab c s off len ++ (need c (.le (.il 0) (loOf lo)) ++ (need c (.le (loOf lo) (hiOf len hi)) ++ need c (.le (hiOf len hi) len))), .one (.c (.slt l m (mkAdd off (loOf lo)) (mkSub (hiOf len hi) (loOf lo)) z)))
      else none
    | _, _ => none
  | _, _ => none
theorem tabCut_ok {ρ : Env} {β : Bn} {P : Program} {c : Cx} (hc : c.ok ρ) {hp : List Bk} {w : World} (hb : ∀ b ∈ hp, BkOk ρ β w b) {t : TypeId} {l sz : Nat} {off len an : Tm} {lo hi : Option (IntKind × Tm)} {m : List Tm} {r : SV}
    (h : tabCut P c hp t l sz off len an lo hi = some (m, r)) (hm : Met ρ m) :
    (Instr.sliceAt t (C.den ρ β (.slt l sz off len an)) (lo.map fun p => Value.int p.1 (den ρ p.2).i) (hi.map fun p => Value.int p.1 (den ρ p.2).i) none).run P w = .ok (r.den ρ β) w := by
  unfold tabCut at h
  split at h
  · rename_i lv s e hf ht
    obtain ⟨ty, hB⟩ := tabFind_ok hf hb
    split at h
    · rename_i i z hi' hz
      split at h
      · rename_i q
        have q1 := Nat.eq_of_beq_eq_true q
        injection h with h
        injection h with e1 e2
        subst e1 e2
        obtain ⟨b1, b2, b3⟩ := inTab_ok hc hm.l
        have m1 := le_of (need_ok hc hm.r.l)
        have m2 := le_of (need_ok hc hm.r.r.l)
        have m3 := le_of (need_ok hc hm.r.r.r)
        have hcap := hB.len
        have hE : P.elem t = e := by simp [Program.elem, ht]
        have ht' : P.underlying t = some (.slice (P.elem t)) := by rw [hE]; exact ht
        generalize hlo : loOf lo = loT at *
        generalize hhi : hiOf len hi = hiT at *
        change (0 : Int) ≤ _ at m1
        have hst : ((den ρ loT).i.toNat = 0 ∧ (den ρ z).i.toNat = (den ρ an).i.toNat) ∨ ((den ρ off).i.toNat = 0 ∧ (den ρ z).i.toNat = 0) ∨ (den ρ loT).i.toNat < (den ρ len).i.toNat ∨ (0 < (den ρ loT).i.toNat ∧ (den ρ z).i.toNat = (den ρ off).i.toNat) := by
          unfold anOf at hz
          split at hz
          · rename_i q
            injection hz with hz
            subst hz
            rw [same_eq q]
            exact .inl ⟨rfl, rfl⟩
          · split at hz
            · rename_i q
              injection hz with hz
              subst hz
              simp only [Bool.or_eq_true] at q
              rcases q with q | q
              · rw [same_eq q]; exact .inr (.inl ⟨rfl, rfl⟩)
              · have := lt_of (sure_ok hc q)
                exact .inr (.inr (.inl (by omega)))
            · split at hz
              · rename_i q
                injection hz with hz
                subst hz
                have := lt_of (sure_ok hc q)
                change (0 : Int) < _ at this
                exact .inr (.inr (.inr ⟨by omega, rfl⟩))
              · cases hz
        obtain ⟨a, cap, hv, hle, hres⟩ := sltZ_cut (m := sz) (z := (den ρ an).i.toNat) (z' := (den ρ z).i.toNat) (g := β l) (c := β (l + 1)) (o := (den ρ off).i.toNat) (n := (den ρ len).i.toNat) (L := (den ρ loT).i.toNat) (H := (den ρ hiT).i.toNat) (by omega) (by omega) (by omega) hst
        rw [slt_den, hv, run_sliceAt_slice w t _ _ _ _ ht', run_slice_any w t _ _ _ ht']
        have hsz : (sizeOf (P.elem t)).run P w = .ok sz w := by rw [hE]; simp [sizeOf, typeInfo, hi', q1]
        have hib : ∀ (k : IntKind) (n : Int) (y : Nat) (code : BoundsCode), 0 ≤ n → n ≤ y → (Instr.sliceBound (.int k n) y code).run P w = .ok n.toNat w := fun k n y code h1 h2 => by
          simp [Instr.sliceBound, asIntOf, h1, h2]
        have hbd : (Instr.sliceBounds true (den ρ len).i.toNat cap (lo.map fun p => Value.int p.1 (den ρ p.2).i) (hi.map fun p => Value.int p.1 (den ρ p.2).i) none).run P w = .ok ((den ρ loT).i.toNat, (den ρ hiT).i.toNat, cap) w := by
          rcases lo with _ | ⟨k, x⟩ <;> rcases hi with _ | ⟨k', y⟩ <;> simp only [loOf, hiOf] at hlo hhi <;> subst hlo hhi
          · simp only [Option.map_none, Instr.sliceBounds, Sem.run_bind, Sem.run_pure, Result.andThen_ok]
            rfl
          · have := hib k' (den ρ y).i cap .sliceAcap (by omega) (by omega)
            simp only [Option.map_none, Option.map_some, Instr.sliceBounds, Sem.run_bind, Sem.run_pure, Result.andThen_ok, if_true, this]
            rfl
          · have := hib k (den ρ x).i (den ρ len).i.toNat .sliceB (by omega) (by omega)
            simp only [Option.map_none, Option.map_some, Instr.sliceBounds, Sem.run_bind, Sem.run_pure, Result.andThen_ok, Option.isSome_none, Bool.false_eq_true, if_false, this]
          · have h1 := hib k' (den ρ y).i cap .sliceAcap (by omega) (by omega)
            have h2 := hib k (den ρ x).i (den ρ y).i.toNat .sliceB (by omega) (by omega)
            simp only [Option.map_some, Instr.sliceBounds, Sem.run_bind, Sem.run_pure, Result.andThen_ok, Option.isSome_none, Bool.false_eq_true, if_false, if_true, h1, h2]
        simp only [hbd, Result.andThen_ok, hsz]
        rw [hres]
        show _ = Result.ok (C.den ρ β (.slt l sz (mkAdd off loT) (mkSub hiT loT) z)) w
        rw [slt_den, mkAdd_ok, mkSub_ok]
        congr 2
        · omega
        · omega
      · cases h
    · cases h
  · cases h

def tabAt (P : Program) (c : Cx) (hp : List Bk) (t : TypeId) (l m : Nat) (off len : Tm) (ix : SV) : PR :=
  match tabFind hp l, P.underlying t, ix with
  | some (lv, s), some (.slice e), .one (.c (.int k n)) =>
    match P.info? e with
    | some i => if Nat.beq i.size m then some (inTab c s off len ++ (need c (.le (.il 0) n) ++ (need c (.lt n len) ++ (need c (.le (.il 0) (mkAdd off n)) ++ need c (.lt (mkAdd off n) (mkTL c s))))), .one (.c (.pta l 0 m (mkAdd off n) 0))) else none
    | none => none
  | _, _, _ => none
theorem tabAt_ok {ρ : Env} {β : Bn} {P : Program} {c : Cx} (hc : c.ok ρ) {hp : List Bk} {w : World} (hb : ∀ b ∈ hp, BkOk ρ β w b) {t : TypeId} {l sz : Nat} {off len an : Tm} {ix : SV} {m : List Tm} {r : SV}
    (h : tabAt P c hp t l sz off len ix = some (m, r)) (hm : Met ρ m) : (Instr.indexAt t (C.den ρ β (.slt l sz off len an)) (ix.den ρ β)).run P w = .ok (r.den ρ β) w := by
  unfold tabAt at h
  split at h
  · rename_i lv s e k n hf ht
    obtain ⟨ty, hB⟩ := tabFind_ok hf hb
    split at h
    · rename_i i hi
      split at h
      · rename_i q
        have q1 := Nat.eq_of_beq_eq_true q
        injection h with h
        injection h with e1 e2
        subst e1 e2
        obtain ⟨b1, b2, b3⟩ := inTab_ok hc hm.l
        have m1 := le_of (need_ok hc hm.r.l)
        have m2 := lt_of (need_ok hc hm.r.r.l)
        change (0 : Int) ≤ _ at m1
        have hcap := hB.len
        have hE : P.elem t = e := by simp [Program.elem, ht]
        show (Instr.indexAt t (C.den ρ β (.slt l sz off len an)) (.int k (den ρ n).i)).run P w = Result.ok (.pointer (some ⟨β l, 0 + (den ρ (mkAdd off n)).i.toNat * sz + 0, none⟩)) w
        rw [slt_den, mkAdd_ok]
        unfold sltZ
        rw [if_neg (by omega), if_neg (by omega), run_indexAt_slice w t _ _ _ k _ (by rw [hE]; exact ht), hE, if_pos ⟨m1, by omega⟩]
        simp only [sizeOf, typeInfo, Sem.run_bind, run_program, Result.andThen_ok, hi, Sem.run_pure, q1, Addr.add_mid]
        rw [show ((den ρ off).i + (den ρ n).i).toNat = (den ρ off).i.toNat + (den ρ n).i.toNat from by omega, Nat.add_mul, Nat.zero_add, Nat.add_zero]
      · cases h
    · cases h
  · cases h
/-- A place in an array that lies among a block's cells. -/
def arrAt (P : Program) (c : Cx) (hp : List Bk) (t : TypeId) (l off : Nat) (ix : SV) : PR :=
  match find l hp, P.underlying t, ix with
  | some b, some (.array len e), .one (.c (.int k n)) =>
    match P.info? e with
    | some i => match tabOf c b off i.size with
      | some _ => some (need c (.le (.il 0) n) ++ need c (.lt n (.il len)), .one (.c (.pta l off i.size n 0)))
      | none => none
    | none => none
  | _, _, _ => none
theorem arrAt_ok {ρ : Env} {β : Bn} {P : Program} {c : Cx} (hc : c.ok ρ) {hp : List Bk} {w : World} {t : TypeId} {l off : Nat} {ix : SV} {m : List Tm} {r : SV}
    (h : arrAt P c hp t l off ix = some (m, r)) (hm : Met ρ m) : (Instr.indexAt t (C.den ρ β (.ptr l off)) (ix.den ρ β)).run P w = .ok (r.den ρ β) w := by
  unfold arrAt at h
  split at h
  · rename_i b len e k n hf hu
    split at h
    · rename_i i hi
      split at h
      · injection h with h
        injection h with e1 e2
        subst e1 e2
        have m1 := le_of (need_ok hc hm.l)
        have m2 := lt_of (need_ok hc hm.r)
        change (0 : Int) ≤ _ at m1
        change _ < (len : Int) at m2
        show (Instr.indexAt t (.pointer (some ⟨β l, off, none⟩)) (.int k (den ρ n).i)).run P w = Result.ok (.pointer (some ⟨β l, off + (den ρ n).i.toNat * i.size + 0, none⟩)) w
        have hL : P.arrayLen t = len := by simp [Program.arrayLen, hu]
        have hE : P.elem t = e := by simp [Program.elem, hu]
        rw [run_indexAt_array w t _ k _ (by rw [hL, hE]; exact hu), hL, hE, if_pos ⟨m1, m2⟩]
        simp only [sizeOf, typeInfo, Sem.run_bind, run_program, Result.andThen_ok, hi, Sem.run_pure, Addr.add_mid, Nat.add_zero]
      · cases h
    · cases h
  · cases h
def tabField (P : Program) (s : TypeId) (l base m : Nat) (i : Tm) (o f : Nat) : PR :=
  match P.underlying s with
  | some (.struct F) =>
    match F[f]? with
    | some fd => match P.info? fd.type with
      | some inf => if Nat.beq inf.size 0 then none else some ([], .one (.c (.pta l base m i (o + fd.offset))))
      | none => none
    | none => none
  | _ => none
theorem tabField_ok {ρ : Env} {β : Bn} {P : Program} {s : TypeId} {l base sz : Nat} {i : Tm} {o f : Nat} {m : List Tm} {r : SV} (h : tabField P s l base sz i o f = some (m, r)) (w : World) : (Instr.fieldAt s (C.den ρ β (.pta l base sz i o)) f).run P w = .ok (r.den ρ β) w := by
  unfold tabField at h
  split at h
  · rename_i F hu
    split at h
    · rename_i fd hf
      split at h
      · rename_i inf hi
        split at h
        · cases h
        · rename_i hz
          injection h with h
          injection h with h1 h2
          subst h1 h2
          have hz' : inf.size ≠ 0 := fun e => hz (by rw [e]; rfl)
          show (Instr.fieldAt s (.pointer (some ⟨β l, base + (den ρ i).i.toNat * sz + o, none⟩)) f).run P w = .ok (.pointer (some ⟨β l, base + (den ρ i).i.toNat * sz + (o + fd.offset), none⟩)) w
          simp only [Instr.fieldAt, Sem.run_bind, run_underlying hu, Result.andThen_ok, hf, Instr.sureAddr, Sem.run_pure, fieldPlace, sizeOf, typeInfo, run_program, hi, hz', if_false, Addr.add_mid, Nat.add_assoc]
      · cases h
    · cases h
  · cases h
def tabLen (P : Program) (c : Cx) (hp : List Bk) (t : TypeId) (l : Nat) (off len : Tm) : PR :=
  match tabFind hp l, P.underlying t with
  | some (_, s), some (.slice _) => sI (inTab c s off len) .i64 len
  | _, _ => none
theorem tabLen_ok {ρ : Env} {β : Bn} {P : Program} {c : Cx} (hc : c.ok ρ) {hp : List Bk} {w : World} (hb : ∀ b ∈ hp, BkOk ρ β w b) {t ty : TypeId} {l sz : Nat} {off len an : Tm} {m : List Tm} {r : SV}
    (h : tabLen P c hp t l off len = some (m, r)) (hm : Met ρ m) : (Builtin.len_ #[t] ty #[C.den ρ β (.slt l sz off len an)]).run P w = .ok (r.den ρ β) w := by
  unfold tabLen at h
  split at h
  · rename_i s e hf ht
    obtain ⟨ty', hB⟩ := tabFind_ok hf hb
    injection h with h
    injection h with e1 e2
    subst e1 e2
    obtain ⟨b1, b2, b3⟩ := inTab_ok hc hm
    have hcap := hB.len
    rw [slt_den]
    unfold sltZ
    split
    · simp only [Builtin.len_, List.getElem?_toArray, List.getElem?_cons_zero, Sem.run_bind, run_underlying ht, Result.andThen_ok, Sem.run_pure]
      exact res_int (show (den ρ len).i = ((0 : Nat) : Int) by omega)
    · simp only [Builtin.len_, List.getElem?_toArray, List.getElem?_cons_zero, Sem.run_bind, run_underlying ht, Result.andThen_ok, Sem.run_pure]
      exact res_int (show (den ρ len).i = ((den ρ len).i.toNat : Int) by omega)
  · cases h
theorem slV_ptr {a : Option Addr} {v : Value} (h : [Value.pointer a] = [mkV .sls (dC [[v]])]) : False := by
  injection h with h _
  change Value.pointer a = slV v at h
  cases v <;> cases h
/-- A pointer that is told by a term, as the letter of the block at which it points. -/
def findAl (t : Tm) : List Bk → C
  | [] => .ptv t
  | b :: l => match b.str, b.x, b.cs with
    | none, .al u, [.ptr n 0] => if same u t then .ptr n 0 else findAl t l
    | _, _, _ => findAl t l
theorem findAl_ok {ρ : Env} {β : Bn} {w : World} (t : Tm) : ∀ {hp : List Bk}, (∀ b ∈ hp, BkOk ρ β w b) → (findAl t hp).den ρ β = (C.ptv t).den ρ β
  | [], _ => rfl
  | b :: l, h => by
    have ih := findAl_ok (β := β) t (hp := l) fun x hx => h x (List.mem_cons_of_mem _ hx)
    have hB := h b (List.mem_cons_self ..)
    unfold findAl
    split
    · rename_i u n hs hx hcs
      split
      · rename_i q
        unfold BkOk at hB
        rw [hs, hx, hcs] at hB
        rcases hB.2 with this | this
        · rw [same_eq q] at this
          injection this with this _
        · exact (slV_ptr this).elim
      · exact ih
    · exact ih
/-- A slice that is told by a term, as the slice of a table that is told. -/
def findSl (t : Tm) : List Bk → C
  | [] => .vls t
  | b :: l => match b.str, b.x, b.cs with
    | none, .al u, [.slt n m o e z] => if same u t then .slt n m o e z else findSl t l
    | _, _, _ => findSl t l
theorem sltZ_ptr {g c m o n z : Nat} {a : Option Addr} (h : sltZ g c m o n z = .pointer a) : False := by
  unfold sltZ at h
  split at h <;> cases h
theorem findSl_ok {ρ : Env} {β : Bn} {w : World} (t : Tm) : ∀ {hp : List Bk}, (∀ b ∈ hp, BkOk ρ β w b) → (findSl t hp).den ρ β = (C.vls t).den ρ β
  | [], _ => rfl
  | b :: l, h => by
    have ih := findSl_ok (β := β) t (hp := l) fun x hx => h x (List.mem_cons_of_mem _ hx)
    have hB := h b (List.mem_cons_self ..)
    unfold findSl
    split
    · rename_i u n m o e z hs hx hcs
      split
      · rename_i q
        unfold BkOk at hB
        rw [hs, hx, hcs] at hB
        rcases hB.2 with this | this
        · injection this with this _
          exact (sltZ_ptr this).elim
        · rw [same_eq q] at this
          injection this with this _
      · exact ih
    · exact ih
def unV (hp : List Bk) : V1 → V1
  | .c (.vls t) => .c (findSl t hp)
  | v => v
theorem unV_ok {ρ : Env} {β : Bn} {w : World} {hp : List Bk} (hb : ∀ b ∈ hp, BkOk ρ β w b) (v : V1) : (unV hp v).den ρ β = v.den ρ β := by
  unfold unV
  split
  · exact findSl_ok _ hb
  · rfl
/-- A part, from its beginning on, of an array that lies among a block's cells. -/
def arrCut (P : Program) (c : Cx) (hp : List Bk) (t : TypeId) (l off : Nat) (lo hi : Option (IntKind × Tm)) : PR :=
  match find l hp, P.underlying t, lo, hi with
  | some b, some (.array len e), none, some (_, h) =>
    match P.info? e with
    | some i => match tabOf c b off i.size with
      | some _ => some (need c (.le (.il 0) h) ++ need c (.le h (.il len)), .one (.c (.slc l off h (.il len))))
      | none => none
    | none => none
  | _, _, _, _ => none
theorem arrCut_ok {ρ : Env} {β : Bn} {P : Program} {c : Cx} (hc : c.ok ρ) {hp : List Bk} {w : World} {t : TypeId} {l off : Nat} {lo hi : Option (IntKind × Tm)} {m : List Tm} {r : SV}
    (h : arrCut P c hp t l off lo hi = some (m, r)) (hm : Met ρ m) : (Instr.sliceAt t (C.den ρ β (.ptr l off)) (lo.map fun p => Value.int p.1 (den ρ p.2).i) (hi.map fun p => Value.int p.1 (den ρ p.2).i) none).run P w = .ok (r.den ρ β) w := by
  unfold arrCut at h
  split at h
  · rename_i b len e k n hf hu
    split at h
    · rename_i i hi
      split at h
      · injection h with h
        injection h with e1 e2
        subst e1 e2
        have m1 := le_of (need_ok hc hm.l)
        have m2 := le_of (need_ok hc hm.r)
        change (0 : Int) ≤ _ at m1
        change _ ≤ (len : Int) at m2
        have hL : P.arrayLen t = len := by simp [Program.arrayLen, hu]
        have hE : P.elem t = e := by simp [Program.elem, hu]
        show (Instr.sliceAt t (.pointer (some ⟨β l, off, none⟩)) none (some (.int k (den ρ n).i)) none).run P w = Result.ok (.slice (some ⟨β l, off, none⟩) (den ρ n).i.toNat ((len : Int)).toNat) w
        rw [run_sliceAt_array_h w t _ (by rw [hL, hE]; exact hu) k _ m1 (by rw [hL]; exact m2), hL, hE]
        simp only [sizeOf, typeInfo, Sem.run_bind, run_program, Result.andThen_ok, hi, Sem.run_pure, slicedAt, Nat.zero_mul, Go.Addr.add_zero', ite_self, Nat.sub_zero, Int.toNat_natCast]
      · cases h
    · cases h
  · cases h
/-- A place in such a part. -/
def arrIx (P : Program) (c : Cx) (hp : List Bk) (t : TypeId) (l off : Nat) (len : Tm) (ix : SV) : PR :=
  match find l hp, P.underlying t, ix with
  | some b, some (.slice e), .one (.c (.int k n)) =>
    match P.info? e with
    | some i => match tabOf c b off i.size with
      | some _ => some (need c (.le (.il 0) n) ++ need c (.lt n len), .one (.c (.pta l off i.size n 0)))
      | none => none
    | none => none
  | _, _, _ => none
theorem arrIx_ok {ρ : Env} {β : Bn} {P : Program} {c : Cx} (hc : c.ok ρ) {hp : List Bk} {w : World} {t : TypeId} {l off : Nat} {len cap : Tm} {ix : SV} {m : List Tm} {r : SV}
    (h : arrIx P c hp t l off len ix = some (m, r)) (hm : Met ρ m) : (Instr.indexAt t (C.den ρ β (.slc l off len cap)) (ix.den ρ β)).run P w = .ok (r.den ρ β) w := by
  unfold arrIx at h
  split at h
  · rename_i b e k n hf ht
    split at h
    · rename_i i hi
      split at h
      · injection h with h
        injection h with e1 e2
        subst e1 e2
        have m1 := le_of (need_ok hc hm.l)
        have m2 := lt_of (need_ok hc hm.r)
        change (0 : Int) ≤ _ at m1
        have hE : P.elem t = e := by simp [Program.elem, ht]
        show (Instr.indexAt t (.slice (some ⟨β l, off, none⟩) (den ρ len).i.toNat (den ρ cap).i.toNat) (.int k (den ρ n).i)).run P w = Result.ok (.pointer (some ⟨β l, off + (den ρ n).i.toNat * i.size + 0, none⟩)) w
        rw [run_indexAt_slice w t _ _ _ k _ (by rw [hE]; exact ht), hE, if_pos ⟨m1, by omega⟩]
        simp only [sizeOf, typeInfo, Sem.run_bind, run_program, Result.andThen_ok, hi, Sem.run_pure, Addr.add_mid, Nat.add_zero]
      · cases h
    · cases h
  · cases h
/-- Its bytes as a string. -/
def arrStr (P : Program) (c : Cx) (hp : List Bk) (src dst : TypeId) (l off : Nat) (len : Tm) : PR :=
  match find l hp, P.underlying src, P.underlying dst with
  | some b, some (.slice e), some .string =>
    match P.underlying e, tabOf c b off 1 with
    | some (.int .u8), some ([.int .u8], tt, L) => some (need c (.le (.il 0) len) ++ need c (.le len L), .one (.c (.str (.tb .str (.tb .cut tt (.il 0) len) (.il 0) (.il 0)))))
    | _, _ => none
  | _, _, _ => none
theorem strT_get {l : List (List Value)} (hl : ∀ r ∈ l, kAll [.int .u8] r) {j : Nat} (hj : j < l.length) : (strT l).data.toList.length = l.length ∧ ∃ h : j < (strT l).data.toList.length, (l.getD j [])[0]? = some (.int .u8 (((strT l).data.toList[j]).toNat : Int)) := by
  have h0 : (strT l).data.toList = l.map fun r => match r with
    | [.int _ n] => UInt8.ofNat n.toNat
    | _ => 0 := rfl
  have hlen : (strT l).data.toList.length = l.length := by rw [h0, List.length_map]
  refine ⟨hlen, by omega, ?_⟩
  have hm := hl _ (getD_mem hj)
  have hg : (strT l).data.toList[j]'(by omega) = (match l.getD j [] with
    | [.int _ n] => UInt8.ofNat n.toNat
    | _ => 0) := by
    simp only [h0, List.getElem_map]
    rw [List.getD, List.getElem?_eq_getElem hj]
    rfl
  rw [hg]
  match hr : l.getD j [], hm with
  | [v], hm =>
    obtain ⟨n, rfl, hw⟩ := hm.1
    obtain ⟨b1, b2⟩ := of_wf hw
    change (0 : Int) ≤ n at b1
    change n ≤ (255 : Int) at b2
    show some (Value.int .u8 n) = some (.int .u8 ((UInt8.ofNat n.toNat).toNat : Int))
    rw [UInt8.toNat_ofNat']
    congr 2
    omega
theorem arrStr_ok {ρ : Env} {β : Bn} {P : Program} {c : Cx} (hc : c.ok ρ) {hp : List Bk} {w : World} (hb : ∀ b ∈ hp, BkOk ρ β w b) {src dst : TypeId} {l off : Nat} {len cap : Tm} {m : List Tm} {r : SV}
    (h : arrStr P c hp src dst l off len = some (m, r)) (hm : Met ρ m) : (convert src dst (C.den ρ β (.slc l off len cap))).run P w = .ok (r.den ρ β) w := by
  unfold arrStr at h
  split at h
  · rename_i b e hf hs hd
    split at h
    · rename_i tt L he ht
      injection h with h
      injection h with e1 e2
      subst e1 e2
      have hmem := find_mem hf
      have T := tabOf_ok hc (hb b hmem.1) ht
      have m1 := le_of (need_ok hc hm.l)
      have m2 := le_of (need_ok hc hm.r)
      change (0 : Int) ≤ _ at m1
      rw [T.len] at m2
      have hn : (den ρ len).i.toNat ≤ (den ρ tt).c.length := by omega
      have hcut : (den ρ (.tb .cut tt (.il 0) len)).c = (den ρ tt).c.take (den ρ len).i.toNat := by
        show ((den ρ tt).c.drop ((0 : Int)).toNat).take ((den ρ len).i.toNat - ((0 : Int)).toNat) = _
        rfl
      have hlen : ((den ρ tt).c.take (den ρ len).i.toNat).length = (den ρ len).i.toNat := by rw [List.length_take]; omega
      have hall : ∀ r ∈ (den ρ tt).c.take (den ρ len).i.toNat, kAll [.int .u8] r := fun r hr => T.ok r (List.mem_of_mem_take hr)
      show (convert src dst (.slice (some ⟨β l, off, none⟩) (den ρ len).i.toNat (den ρ cap).i.toNat)).run P w = Result.ok (Value.string (strT (den ρ (.tb .cut tt (.il 0) len)).c)) w
      rw [hcut]
      generalize hX : (den ρ tt).c.take (den ρ len).i.toNat = X at hlen hall
      have hsz : (strT X).data.toList.length = X.length := by
        show (X.map _).length = _
        rw [List.length_map]
      have key := run_convert_bytes_back (P := P) w src dst e ⟨β l, off, none⟩ (den ρ cap).i.toNat (strT X).data.toList hs he hd (fun j hj => by
        rw [hsz] at hj
        obtain ⟨_, h2, h3⟩ := strT_get hall hj
        rw [Addr.add_mid]
        have := T.cell j 0 _ (by omega) (show ((den ρ tt).c.getD j [])[0]? = _ from by
          have : (den ρ tt).c.getD j [] = X.getD j [] := by
            rw [← hX, List.getD_eq_getElem?_getD, List.getD_eq_getElem?_getD, List.getElem?_take, if_pos (by omega)]
          rw [this, h3])
        rw [← hmem.2]
        simpa using this)
      rw [hsz, hlen] at key
      rw [key]
    · cases h
  · cases h
/-- What an operation that only reads tables gives. -/
def memT (P : Program) (c : Cx) (hp : List Bk) (ev : Operand → Option SV) : Op → PR
  | .load t x => match ev x with
    | some x => (loadT P c hp t x).map fun v => ([], .one (unV hp v))
    | none => none
  | .nilCheck x => match ev x with
    | some (.one (.c (.pta l b m i f))) => some ([], .one (.c (.pta l b m i f)))
    | some (.one (.c (.ptv t))) => some ([], .one (.c (findAl t hp)))
    | _ => none
  | .fieldAddr t x f => match ev x with
    | some (.one (.c (.pta l b m i o))) => tabField P t l b m i o f
    | _ => none
  | .slice t x lo hi mx => match ev x, optEv ev lo, optEv ev hi, mx with
    | some (.one (.c (.slt l m off len an))), some lo, some hi, none => match optI lo, optI hi with
      | some lo, some hi => tabCut P c hp t l m off len an lo hi
      | _, _ => none
    | some (.one (.c (.ptr l off))), some lo, some hi, none => match optI lo, optI hi with
      | some lo, some hi => arrCut P c hp t l off lo hi
      | _, _ => none
    | _, _, _, _ => none
  | .convert s d x => match ev x with
    | some (.one (.c (.slc l off len cap))) => arrStr P c hp s d l off len
    | _ => none
  | .indexAddr t x i => match ev x, ev i with
    | some (.one (.c (.slt l m off len an))), some i => tabAt P c hp t l m off len i
    | some (.one (.c (.ptr l off))), some i => arrAt P c hp t l off i
    | some (.one (.c (.slc l off len cap))), some i => arrIx P c hp t l off len i
    | _, _ => none
  | .call k => match k.callee, k.args.toList, k.argTypes.toList with
    | .builtin .len, [x], [t] => match ev x with
      | some (.one (.c (.slt l m off len an))) => tabLen P c hp t l off len
      | _ => none
    | _, _, _ => none
  | _ => none
theorem memT_ok {ρ : Env} {β : Bn} {P : Program} {c : Cx} (hc : c.ok ρ) {hp : List Bk} {w : World} (hb : ∀ b ∈ hp, BkOk ρ β w b) {ev : Operand → Option SV} {a : Act} (hev : ∀ x v, ev x = some v → a.eval x = v.den ρ β) {o : Oper} {m : List Tm} {r : SV}
    (h : memT P c hp ev o.op = some (m, r)) (hm : Met ρ m) : (execOp a.eval o).run P w = .ok (.value (r.den ρ β)) w := by
  obtain ⟨dst, op, ty, pos, after, guard⟩ := o
  simp only [] at h
  cases op <;> simp only [memT] at h <;> try (cases h; done)
  case load t x =>
    split at h
    · rename_i x' hx
      cases hl : loadT P c hp t x' with
      | none => rw [hl] at h; cases h
      | some v =>
        rw [hl] at h
        injection h with h
        injection h with h1 h2
        subst h1 h2
        refine run_v ?_
        rw [hev _ _ hx]
        show _ = Result.ok ((unV hp v).den ρ β) w
        rw [unV_ok hb]
        exact loadT_ok hc hl hb
    · cases h
  case nilCheck x =>
    split at h
    · rename_i l b m' i f h1
      injection h with h
      injection h with h2 h3
      subst h2 h3
      simp only [execOp, hev _ _ h1]
      rfl
    · rename_i t h1
      injection h with h
      injection h with h2 h3
      subst h2 h3
      rw [show (SV.one (.c (findAl t hp))).den ρ β = (SV.one (.c (.ptv t))).den ρ β from findAl_ok t hb]
      simp only [execOp, hev _ _ h1]
      rfl
    · cases h
  case fieldAddr t x f =>
    split at h
    · rename_i l b m' i o h1
      refine run_v ?_
      rw [hev _ _ h1]
      exact tabField_ok h w
    · cases h
  case slice t x lo hi mx =>
    split at h
    · rename_i l m' off len an lo' hi' h1 h2 h3
      split at h
      · rename_i lo'' hi'' h4 h5
        refine run_v ?_
        rw [hev _ _ h1, optEv_ok hev h2, optEv_ok hev h3, optI_ok h4, optI_ok h5]
        exact tabCut_ok hc hb h hm
      · cases h
    · rename_i l off lo' hi' h1 h2 h3
      split at h
      · rename_i lo'' hi'' h4 h5
        refine run_v ?_
        rw [hev _ _ h1, optEv_ok hev h2, optEv_ok hev h3, optI_ok h4, optI_ok h5]
        exact arrCut_ok (β := β) hc h hm
      · cases h
    · cases h
  case convert s d x =>
    split at h
    · rename_i l off len cap h1
      refine run_v ?_
      rw [hev _ _ h1]
      exact arrStr_ok hc hb h hm
    · cases h
  case indexAddr t x i =>
    split at h
    · rename_i l m' off len an i' h1 h2
      refine run_v ?_
      rw [hev _ _ h1, hev _ _ h2]
      exact tabAt_ok hc hb h hm
    · rename_i l off i' h1 h2
      refine run_v ?_
      rw [hev _ _ h1, hev _ _ h2]
      exact arrAt_ok hc h hm
    · rename_i l off len cap i' h1 h2
      refine run_v ?_
      rw [hev _ _ h1, hev _ _ h2]
      exact arrIx_ok hc h hm
    · cases h
  case call k =>
    obtain ⟨callee, args, ats⟩ := k
    simp only [] at h
    split at h
    · rename_i x t hargs hats
      split at h
      · rename_i l m' off len an h1
        rw [execOp_builtin, builtin_len]
        have e1 : args = #[x] := by cases args; simp at hargs; rw [hargs]
        have e2 : ats = #[t] := by cases ats; simp at hats; rw [hats]
        subst e1 e2
        have e3 : a.eval x = C.den ρ β (.slt l m' off len an) := hev _ _ h1
        have := tabLen_ok (ty := ty) (an := an) (sz := m') hc hb h hm
        refine run_v ?_
        simpa [e3] using this
      · cases h
    · cases h
def memA (P : Program) (c : Cx) (hp : List Bk) (ev : Operand → Option SV) (o : Op) : PR :=
  match memS P c hp ev o with
  | some r => some r
  | none => memT P c hp ev o
theorem memA_ok {ρ : Env} {β : Bn} {P : Program} {c : Cx} (hc : c.ok ρ) {hp : List Bk} {w : World} (hb : ∀ b ∈ hp, BkOk ρ β w b) {ev : Operand → Option SV} {a : Act} (hev : ∀ x v, ev x = some v → a.eval x = v.den ρ β) {o : Oper} {m : List Tm} {r : SV}
    (h : memA P c hp ev o.op = some (m, r)) (hm : Met ρ m) : (execOp a.eval o).run P w = .ok (.value (r.den ρ β)) w := by
  unfold memA at h
  split at h
  · rename_i r' hr
    injection h with h
    subst h
    exact memS_ok hc hb hev hr hm
  · exact memT_ok hc hb hev h hm

/-! Append. -/
structure GrownT (w w' : World) (g c : Nat) (e : TypeId) (lv : List Kd) (l : List (List Value)) (g' c' : Nat) : Prop where
  row : RowT w' g' c' e lv l
  by_ : w.grownBy w' (rowOf g c)
  at_ : c' = 0 ∨ (c ≠ 0 ∧ g' = g) ∨ w.heap.size ≤ g'
def sltV (g c n : Nat) : Value := if c = 0 then .slice none 0 0 else .slice (some ⟨g, 0, none⟩) n c
theorem sltZ_zero (g c m n : Nat) : sltZ g c m 0 n 0 = sltV g c n := by
  unfold sltZ sltV
  by_cases h : c = 0
  · rw [if_pos h, if_pos h]
  · rw [if_neg h, if_neg h, if_neg h, Nat.zero_mul]
    rfl
theorem sltV_own (g c n : Nat) : (sltV g c n).ownBlock = rowOf g c := by
  unfold sltV rowOf
  split <;> rfl
theorem sltV_some {g c n : Nat} (h : c ≠ 0) : sltV g c n = .slice (some ⟨g, 0, none⟩) n c := by
  unfold sltV
  rw [if_neg h]
section
variable {w : World} {g c n : Nat} {e : TypeId} {lv : List Kd} {l : List (List Value)}
theorem RowT.owns (h : RowT w g c e lv l) (hn : n = l.length) : w.ownsRow 0 e lv.length (sltV g c n) n l.flatten := by
  refine ⟨by rw [h.fits, hn], ?_⟩
  have hl := h.len
  by_cases hc : c = 0
  · refine .inl ⟨by unfold sltV; rw [if_pos hc], by omega⟩
  · obtain ⟨cur, h1, h3, h4, h5⟩ := h.row hc
    exact .inr ⟨g, c, cur, sltV_some hc, Nat.zero_le _, h1, by omega, h4, h3, by rw [hn]; exact h5⟩
theorem RowT.of_own {v : Value} (hk : ∀ r ∈ l, kAll lv r) (hl : l.length = n) (h : w.ownsRow 0 e lv.length v n l.flatten) (hv : v = .slice (some ⟨g, 0, none⟩) n c) : RowT w g c e lv l := by
  subst hv
  rcases h.2 with ⟨h1, _⟩ | ⟨g', c', cur, h1, _, h2, h3, h4, h5, h6⟩
  · cases h1
  · injection h1 with e1 e2 e3
    injection e1 with e1
    injection e1 with e1
    subst e1 e3
    exact ⟨fun _ => ⟨cur, h2, h5, h4, by rw [hl]; exact h6⟩, by omega, hk⟩
end
section
variable {P : Program} {w : World} {g c : Nat} {t ty e : TypeId} {i : TypeInfo} {z : Value} {lv : List Kd} {l : List (List Value)}
theorem flat_one {ns : List (List Value)} (h : ∀ r ∈ ns, kAll lv r) : ∀ u ∈ ns.flatten, u.oneCell' = true := fun u hu => by
  obtain ⟨r, hr, hu⟩ := List.mem_flatten.1 hu
  exact kAll_one (h r hr) u hu
theorem app_tab (ht : P.underlying t = some (.slice e)) (hi : P.info? e = some i) (hz : i.zero = some z) (hzs : z.cells.size = i.size) (hsz : lv.length = i.size) (hpos : 0 < i.size) (hby : 0 < i.bytes)
    (h : RowT w g c e lv l) {A : Option Addr} {m k : Nat} {ns : List (List Value)} (hr : Reads w w.heap.size i.size A m ns.flatten) (hnl : ns.length = m) (hk : ∀ r ∈ ns, kAll lv r) (hb : (l.length + m) * i.bytes ≤ 140737488355328) :
    ∃ g' c' w', (Builtin.append_ #[t, t] ty #[sltV g c l.length, .slice A m k]).run P w = .ok (sltV g' c' (l.length + m)) w' ∧ GrownT w w' g c e lv (l ++ ns) g' c' := by
  have hb1 : l.length + m ≤ 140737488355328 := by
    have : (l.length + m) * 1 ≤ (l.length + m) * i.bytes := Nat.mul_le_mul_left _ hby
    omega
  have h63 : l.length + m ≤ maxLen := by simp only [maxLen]; omega
  have hlen := h.len
  have hall : ∀ r ∈ l ++ ns, kAll lv r := fun r hr => by
    rcases List.mem_append.1 hr with hr | hr
    · exact h.ok r hr
    · exact hk r hr
  have hcount : (l ++ ns).length = l.length + m := by rw [List.length_append, hnl]
  have hown := h.owns (n := l.length) rfl
  rw [hsz] at hown
  have zero : l.length = 0 → m = 0 → l ++ ns = [] := fun h1 h2 => by
    rw [List.eq_nil_of_length_eq_zero h1, List.eq_nil_of_length_eq_zero (hnl.trans h2)]
    rfl
  rcases A with _ | ad
  · have hm : m = 0 := by
      rcases Nat.eq_zero_or_pos m with h0 | h0
      · exact h0
      · obtain ⟨ad, h, _⟩ := hr.2 h0
        cases h
    subst hm
    have hn : ns = [] := List.eq_nil_of_length_eq_zero hnl
    subst hn
    refine ⟨g, c, w, run_append_of_nil w 0 t ty e i i.size ht hi _ _ _ hown k, ⟨by rw [List.append_nil]; exact h, World.grownBy.refl w _, ?_⟩⟩
    by_cases hc : c = 0
    · exact .inl hc
    · exact .inr (.inl ⟨hc, rfl⟩)
  · have hcells : ∀ j u, ns.flatten[j]? = some u → w.cell? (ad.add j) = some u := by
      intro j u hu
      rcases Nat.eq_zero_or_pos m with h0 | h0
      · have hn : ns = [] := List.eq_nil_of_length_eq_zero (by omega)
        subst hn
        simp at hu
      · obtain ⟨ad', h, _, hc⟩ := hr.2 h0
        injection h with h
        subst h
        exact hc j u hu
    have hlm : ns.flatten.length = m * i.size := hr.1
    obtain ⟨v', w', hrun, h2, h3, h4, h5⟩ := run_append_own_at (P := P) w 0 t ty e i z i.size i.bytes ht hi hz rfl rfl hzs hpos _ _ _ hown ad m k ns.flatten hlm hcells (flat_one hk) h63 hb (Nat.zero_le _)
    rw [← List.flatten_append, ← hsz] at h2
    rw [sltV_own] at h3
    by_cases hc : c = 0
    · have hn : l.length = 0 := by omega
      by_cases hm : m = 0
      · have hv := h4.2 ⟨by unfold sltV; rw [if_pos hc], hm⟩
        refine ⟨0, 0, w', by rw [hrun, hv]; rfl, ⟨?_, h3, .inl rfl⟩⟩
        rw [zero hn hm]
        exact RowT.none_ ..
      · have hr := run_append_nil (P := P) w t ty e i z ht hi hz ad m k ns.flatten hlm hcells (by omega) (by omega) (by
          have : (l.length + m) * i.bytes = m * i.bytes := by rw [hn, Nat.zero_add]
          omega)
        have hv : v' = .slice (some ⟨w.heap.size, 0, none⟩) m (grownCap w m 0 e) := by
          rw [show sltV g c l.length = .slice none 0 0 from by unfold sltV; rw [if_pos hc]] at hrun
          exact ok_val hrun hr
        rw [show l.length + m = m from by omega] at h2 hcount ⊢
        have hge := grownCap_ge w m 0 e
        refine ⟨w.heap.size, grownCap w m 0 e, w', by rw [hrun, hv, sltV_some (by omega)], ⟨RowT.of_own hall hcount h2 hv, h3, .inr (.inr (Nat.le_refl _))⟩⟩
    · obtain ⟨cur, r1, r3, r4, r5⟩ := h.row hc
      by_cases hroom : l.length + m ≤ c
      · have hfit : l.length * i.size + ns.flatten.length ≤ cur.size := by
          rw [hlm, r3, hsz, ← Nat.add_mul]
          exact Nat.mul_le_mul_right _ hroom
        have hr := run_append_room (P := P) w t ty e i ht hi g l.length c cur r1 ad m k ns.flatten hlm hcells (flat_one hk) hroom hfit
        rw [sltV_some hc] at hrun ⊢
        have hv := ok_val hrun hr
        exact ⟨g, c, w', by rw [hrun, hv, sltV_some hc], ⟨RowT.of_own hall hcount h2 hv, h3, .inr (.inl ⟨hc, rfl⟩)⟩⟩
      · have hcell : ∀ j u, l.flatten[j]? = some u → w.cell? ((⟨g, 0, none⟩ : Addr).add j) = some u := (h.owns rfl).cells (g := g) (by rw [sltV_own]; unfold rowOf; rw [if_neg hc])
        have hr := run_append_grow (P := P) w t ty e i z ht hi hz ⟨g, 0, none⟩ l.length c l.flatten (by rw [h.fits, hsz]) hcell ad m k ns.flatten hlm hcells (by omega) (by omega) (growslice_fits (by omega) hb)
        rw [sltV_some hc] at hrun ⊢
        have hv := ok_val hrun hr
        have hge := grownCap_ge w (l.length + m) c e
        exact ⟨w.heap.size, _, w', by rw [hrun, hv, sltV_some (by omega)], ⟨RowT.of_own hall hcount h2 hv, h3, .inr (.inr (Nat.le_refl _))⟩⟩
end

/-! With letters. -/
def kdC : C → Option Kd
  | .int k _ => some (.int k)
  | .bool _ => some .bool
  | .str _ => some .str
  | .nslc => some .sls
  | _ => none
def kdCs : List C → Option (List Kd)
  | [] => some []
  | x :: l => match kdC x, kdCs l with
    | some k, some ks => some (k :: ks)
    | _, _ => none
def kindsOf (P : Program) (e : TypeId) : Option (List Kd) := (zeroS P e).bind kdCs
/-- Rows of n cells each. -/
def rowsTm (c : Cx) (lv : List Kd) : Nat → List C → Option (List Tm × Tm)
  | 0, _ => some ([], tn)
  | n + 1, cs => match rowTm c (cs.take lv.length) lv, rowsTm c lv n (cs.drop lv.length) with
    | some (m1, r), some (m2, t) => some (m1 ++ m2, mkTA r t)
    | _, _ => none
theorem rowsTm_ok {ρ : Env} {β : Bn} {c : Cx} (hc : c.ok ρ) {lv : List Kd} : ∀ {n : Nat} {cs : List C} {m : List Tm} {t : Tm}, rowsTm c lv n cs = some (m, t) → Met ρ m → (den ρ t).c.length = n ∧ (∀ r ∈ (den ρ t).c, kAll lv r) ∧ (den ρ t).c.flatten = (denL ρ β cs).take (n * lv.length)
  | 0, cs, m, t, h, _ => by
    injection h with h
    injection h with h1 h2
    subst h1 h2
    exact ⟨rfl, fun _ h => (by cases h), by rw [Nat.zero_mul, List.take_zero]; rfl⟩
  | n + 1, cs, m, t, h, hm => by
    simp only [rowsTm] at h
    split at h
    · rename_i m1 r m2 t' h1 h2
      injection h with h
      injection h with e1 e2
      subst e1 e2
      obtain ⟨a1, a2⟩ := rowTm_ok (β := β) hc h1 hm.l
      obtain ⟨b1, b2, b3⟩ := rowsTm_ok (β := β) hc h2 hm.r
      rw [mkTA_ok, a1]
      refine ⟨by simp [b1, Nat.add_comm], fun r hr => ?_, ?_⟩
      · rcases List.mem_append.1 hr with hr | hr
        · simp at hr; rw [hr]; exact a2
        · exact b2 r hr
      · have hl := kAll_len a2
        rw [List.flatten_append, b3, denL_take, denL_drop]
        simp only [List.flatten_cons, List.flatten_nil, List.append_nil]
        rw [Nat.succ_mul, Nat.add_comm, List.take_add]
    · cases h
def isU8 (P : Program) (e : TypeId) : Bool :=
  match P.underlying e with
  | some (.int .u8) => true
  | _ => false
def baseT (P : Program) (c : Cx) (hp : List Bk) (e : TypeId) : SV → Option (List Tm × Option Nat × List Kd × Tm)
  | .one (.c .nslc) => (kindsOf P e).map fun lv => ([], none, lv, tn)
  | .one (.c (.slt l m off len an)) => match find l hp with
    | some b => match b.str, b.x with
      | none, .tab lv t => if b.rw && (Nat.beq b.ty e && (Nat.beq m lv.length && (same off (.il 0) && same an (.il 0)))) then some (need c (.le len (mkTL c t)) ++ need c (.le (mkTL c t) len), some l, lv, t) else none
      | _, _ => none
    | none => none
  | .one (.c (.slc l 0 len cap)) => match find l hp, isLit len, isLit cap, kindsOf P e with
    | some b, some n, some k, some lv => match b.str, b.x with
      | none, .no => if b.rw && (Nat.beq b.ty e && (Nat.beq n.toNat k.toNat && (Nat.blt 0 n.toNat && (Nat.ble n.toNat 100000 && Nat.beq b.cs.length (n.toNat * lv.length))))) then (rowsTm c lv n.toNat b.cs).map fun x => (x.1, some l, lv, x.2) else none
      | _, _ => none
    | _, _, _, _ => none
  | _ => none
def srcT (c : Cx) (hp : List Bk) (lv : List Kd) : SV → Option (List Tm × Tm)
  | .one (.c .nslc) => some ([], tn)
  | .one (.c (.slc l off len cap)) => match find l hp, isLit len with
    | some b, some n => match b.str with
      | none => if Nat.ble (off + n.toNat * lv.length) b.cs.length && b.x.isNo then rowsTm c lv n.toNat (b.cs.drop off) else none
      | some _ => none
    | _, _ => none
  | .one (.c (.slt l m off len an)) => match tabFind hp l with
    | some (lv', s) => if sameLv lv lv' && Nat.beq m lv.length then some (inTab c s off len, mkTC c s off (mkAdd off len)) else none
    | none => none
  | _ => none
def growT (P : Program) (c : Cx) (hp : List Bk) (ev : Operand → Option SV) (k : Call) : Option (List Tm × Option Nat × TypeId × List Kd × Tm) :=
  match k.callee, k.args.toList, k.argTypes.toList with
  | .builtin .append, [x, y], [t, u] =>
    match ev x, ev y, P.underlying t with
    | some xv, some yv, some (.slice e) =>
      if Nat.beq t u && !(isU8 P e) then
      match P.info? e with
      | some i =>
        match i.zero with
        | some z =>
          match baseT P c hp e xv with
          | some (m1, old, lv, s) =>
            match srcT c hp lv yv with
            | some (m2, r) => if Nat.beq lv.length i.size && (Nat.beq z.cells.size i.size && (Nat.blt 0 i.size && Nat.blt 0 i.bytes)) then
                some (m1 ++ (m2 ++ need c (.le (mkMul (mkTL c (mkTA s r)) (.il i.bytes)) (.il 140737488355328))), old, e, lv, mkTA s r) else none
            | none => none
          | none => none
        | none => none
      | none => none
      else none
    | _, _, _ => none
  | _, _, _ => none
/-- The state with the table grown: the letter n, and n + 1 for its capacity. -/
def St.growT (s : St) (n : Nat) (e : TypeId) (old : Option Nat) (lv : List Kd) (t : Tm) : St :=
  { s with hp := insBk ⟨n, e, [], true, none, .tab lv t⟩ (match old with | some l => s.hp.filter fun b => !(Nat.beq b.l l) | none => s.hp), nx := max s.nx (n + 2) }
theorem growT_mem {s : St} {n : Nat} {e : TypeId} {old : Option Nat} {lv : List Kd} {t : Tm} {x : Bk} (h : x ∈ (s.growT n e old lv t).hp) : x = ⟨n, e, [], true, none, .tab lv t⟩ ∨ (x ∈ s.hp ∧ old ≠ some x.l) := by
  rcases mem_ins h with h | h
  · exact .inl h
  · refine .inr ?_
    cases old with
    | none => exact ⟨h, by simp⟩
    | some l =>
      have := List.mem_filter.1 h
      refine ⟨this.1, fun e => ?_⟩
      injection e with e
      rw [e, Nat.beq_refl] at this
      simp at this
theorem Md.growT {ρ : Env} {β : Bn} {S : Nat → Prop} {w0 w w' : World} {β0 : Bn} {n0 : Nat} {s : St} {a : Act} (hM : Md ρ S w0 β0 n0 s β a w) (n : Nat) (hn : n0 ≤ n) (hf : s.free n = true) (hf1 : s.free (n + 1) = true)
    {g c g' c' : Nat} {e : TypeId} {lv : List Kd} {bs : List (List Value)} (hG : GrownT w w' g c e lv bs g' c') {old : Option Nat} {t : Tm} (hstr : (den ρ t).c = bs)
    (ho : c = 0 ∨ ∃ b ∈ s.hp, old = some b.l ∧ b.rw = true ∧ b.real β ∧ g = β b.l) : Md ρ S w0 β0 n0 (s.growT n e old lv t) (upd (upd β n g') (n + 1) c') a w' := by
  unfold St.free at hf hf1
  simp only [Bool.and_eq_true, List.all_eq_true, Bool.not_eq_true'] at hf hf1
  have old2 : ∀ b ∈ s.hp, (upd (upd β n g') (n + 1) c') b.l = β b.l ∧ (upd (upd β n g') (n + 1) c') (b.l + 1) = β (b.l + 1) ∧ denL ρ (upd (upd β n g') (n + 1) c') b.cs = denL ρ β b.cs := fun b hb =>
    ⟨(upd_old (beq_ne (hf1.2 b hb).1)).trans (upd_old (beq_ne (hf.2 b hb).1)), (upd_old (beq_ne (hf1.2 b hb).2.2)).trans (upd_old (beq_ne (hf.2 b hb).2.2)), (denL_upd ρ (hf1.2 b hb).2.1).trans (denL_upd ρ (hf.2 b hb).2.1)⟩
  have oldr : ∀ b ∈ s.hp, b.real (upd (upd β n g') (n + 1) c') → b.real β := fun b hb hr => hr.imp id (fun h => by rw [← (old2 b hb).2.1]; exact h)
  have e1 : (upd (upd β n g') (n + 1) c') n = g' := (upd_old (by omega)).trans (upd_new ..)
  have e2 : (upd (upd β n g') (n + 1) c') (n + 1) = c' := upd_new ..
  -- the new block is none of the others
  have apart : ∀ y ∈ s.hp, old ≠ some y.l → y.real β → c' ≠ 0 → ∀ i, fp β y i → g' ≠ i := by
    intro y hy hne hry hc' i hi
    have hlt := (hM.hp y hy).fplt hry hi
    rcases hG.at_ with h | ⟨h1, h2⟩ | h
    · exact absurd h hc'
    · rcases ho with h | ⟨b, hb, hob, _, hbr, hgb⟩
      · exact absurd h h1
      · rw [h2, hgb]
        exact fun e => hM.ne b hb y hy (fun e => hne (by rw [hob, e])) hbr hry i (e ▸ fp_root β b) hi
    · omega
  refine ⟨?_, ?_, ?_, ?_, hM.cx, ?_, ?_⟩
  · rw [hM.act]
    congr 2
    apply List.map_congr_left
    intro x hx
    exact ((SV.den_upd ρ (hf1.1 x hx)).trans (SV.den_upd ρ (hf.1 x hx))).symm
  · intro x hx
    rcases growT_mem hx with rfl | ⟨hx, hne⟩
    · show RowT w' ((upd (upd β n g') (n + 1) c') n) ((upd (upd β n g') (n + 1) c') (n + 1)) e lv (den ρ t).c
      rw [e1, e2, hstr]
      exact hG.row
    · refine BkOk.agree ((hM.hp x hx).keep fun hr i hi hlt => hG.by_.block _ hlt ?_) (old2 x hx).1 (fun _ => (old2 x hx).2.1) (old2 x hx).2.2
      unfold rowOf
      rcases ho with h | ⟨b, hb, hob, _, hbr, hgb⟩
      · rw [if_pos h]; simp
      · split
        · simp
        · intro he
          injection he with he
          exact hM.ne x hx b hb (fun e => hne (by rw [hob, e])) hr hbr i hi (by rw [he, hgb]; exact fp_root β b)
  · intro x hx y hy hne hrx hry
    rcases growT_mem hx with rfl | ⟨hx, hnx⟩ <;> rcases growT_mem hy with rfl | ⟨hy, hny⟩
    · exact absurd rfl hne
    · intro i ix iy
      have e := fp_one rfl ix
      rw [show i = g' from e.trans e1] at iy
      refine apart y hy hny (oldr y hy hry) ?_ g' ((fp_agree (old2 y hy).1 (old2 y hy).2.2 g').1 iy) rfl
      rcases hrx with h | h
      · cases h
      · exact fun q => h (e2.trans q)
    · intro i ix iy
      have e := fp_one rfl iy
      rw [show i = g' from e.trans e1] at ix
      refine apart x hx hnx (oldr x hx hrx) ?_ g' ((fp_agree (old2 x hx).1 (old2 x hx).2.2 g').1 ix) rfl
      rcases hry with h | h
      · cases h
      · exact fun q => h (e2.trans q)
    · exact (hM.ne x hx y hy hne (oldr x hx hrx) (oldr y hy hry)).agree (old2 x hx).1 (old2 x hx).2.2 (old2 y hy).1 (old2 y hy).2.2
  · intro x hx hw hr i hi
    rcases growT_mem hx with rfl | ⟨hx, hnx⟩
    · have e := fp_one rfl hi
      rw [show i = g' from e.trans e1]
      rcases hr with h | h
      · cases h
      · have h : c' ≠ 0 := fun q => h (e2.trans q)
        rcases hG.at_ with h' | ⟨h1, h2⟩ | h'
        · exact absurd h' h
        · rcases ho with h3 | ⟨b, hb, hob, hbw, hbr, hgb⟩
          · exact absurd h3 h1
          · rw [h2, hgb]
            exact hM.may0 b hb hbw hbr
        · exact .inr (Nat.le_trans hM.only.size h')
    · exact hM.may x hx hw (oldr x hx hr) i ((fp_agree (old2 x hx).1 (old2 x hx).2.2 i).1 hi)
  · have hb := hG.by_
    refine ⟨hb.os.trans hM.only.os, hb.tape.trans hM.only.tape, hb.output.trans hM.only.output, Nat.le_trans hM.only.size hb.size, fun k hk hS => ?_⟩
    refine (hb.block k (Nat.lt_of_lt_of_le hk hM.only.size) ?_).trans (hM.only.block k hk hS)
    unfold rowOf
    split
    · simp
    · rename_i hc
      intro he
      injection he with he
      rcases ho with h3 | ⟨b, hb, hob, hbw, hbr, hgb⟩
      · exact absurd h3 hc
      · rcases hM.may0 b hb hbw hbr with h | h
        · rw [← hgb, ← he] at h; exact hS h
        · rw [← hgb, ← he] at h; omega
  · intro l hl
    exact ((upd_old (by omega)).trans (upd_old (by omega))).trans (hM.old l hl)
theorem growT_ok {ρ : Env} {β : Bn} {P : Program} {S : Nat → Prop} {w0 w : World} {β0 : Bn} {n0 : Nat} {s : St} {a : Act} (hM : Md ρ S w0 β0 n0 s β a w) {c : Cx} (hc : c.ok ρ) {ev : Operand → Option SV} (hev : ∀ x v, ev x = some v → a.eval x = v.den ρ β)
    {o : Oper} {k : Call} (ho : o.op = .call k) {m : List Tm} {old : Option Nat} {e : TypeId} {lv : List Kd} {tt : Tm} (h : growT P c s.hp ev k = some (m, old, e, lv, tt)) (hm : Met ρ m) (n : Nat) (hn : n0 ≤ n) (hf : s.free n = true) (hf1 : s.free (n + 1) = true) :
    ∃ β' w', (execOp a.eval o).run P w = .ok (.value (C.den ρ β' (.slt n lv.length (.il 0) (mkTL c tt) (.il 0)))) w' ∧ Md ρ S w0 β0 n0 (s.growT n e old lv tt) β' a w' := by
  unfold growT at h
  split at h
  · rename_i x y t u hcal hargs hats
    split at h
    · rename_i xv yv e' hx hy ht
      split at h
      · rename_i qtu
        simp only [Bool.and_eq_true] at qtu
        have qtu := Nat.eq_of_beq_eq_true qtu.1
        subst qtu
        split at h
        · rename_i i hi
          split at h
          · rename_i z hz
            split at h
            · rename_i m1 old' lv' s1 hbase
              split at h
              · rename_i m2 r hsrc
                split at h
                · rename_i q
                  simp only [Bool.and_eq_true] at q
                  have q1 := Nat.eq_of_beq_eq_true q.1
                  have q2 := Nat.eq_of_beq_eq_true q.2.1
                  have q3 : 0 < i.size := Nat.le_of_ble_eq_true q.2.2.1
                  have q4 : 0 < i.bytes := Nat.le_of_ble_eq_true q.2.2.2
                  injection h with h
                  injection h with h1 h
                  injection h with h2 h
                  injection h with h3 h
                  injection h with h4 h5
                  subst h1 h2 h3 h4 h5
                  have htot := le_of (need_ok hc hm.r.r)
                  rw [mkMul_ok, mkTL_ok hc, mkTA_ok] at htot
                  change _ * (i.bytes : Int) ≤ (140737488355328 : Int) at htot
                  -- onto what
                  have hb : ∃ g cap, RowT w g cap e' lv' (den ρ s1).c ∧ xv.den ρ β = sltV g cap (den ρ s1).c.length ∧ (cap = 0 ∨ ∃ b ∈ s.hp, old' = some b.l ∧ b.rw = true ∧ b.real β ∧ g = β b.l) := by
                    unfold baseT at hbase
                    split at hbase
                    · obtain ⟨lv0, hk0, e0⟩ := Option.map_eq_some_iff.1 hbase
                      injection e0 with b1 b2
                      injection b2 with b2 b3
                      injection b3 with b3 b4
                      subst b1 b2 b3 b4
                      exact ⟨0, 0, RowT.none_ .., rfl, .inl rfl⟩
                    · rename_i l mm off len an
                      split at hbase
                      · rename_i b hfb
                        split at hbase
                        · rename_i lvb sb hsb hxb
                          split at hbase
                          · rename_i zz
                            simp only [Bool.and_eq_true] at zz
                            injection hbase with hbase
                            injection hbase with b1 b2
                            injection b2 with b2 b3
                            injection b3 with b3 b4
                            subst b1 b2 b3 b4
                            have hmem := find_mem hfb
                            have hB := hM.hp b hmem.1
                            unfold BkOk at hB
                            rw [hsb, hxb] at hB
                            have hB : RowT w (β b.l) (β (b.l + 1)) b.ty lvb (den ρ sb).c := hB
                            rw [hmem.2, Nat.eq_of_beq_eq_true zz.2.1] at hB
                            have l1 := le_of (need_ok hc hm.l.l)
                            have l2 := le_of (need_ok hc hm.l.r)
                            rw [mkTL_ok hc] at l1 l2
                            refine ⟨β l, β (l + 1), hB, ?_, ?_⟩
                            · show C.den ρ β (.slt l mm off len an) = _
                              rw [slt_den, same_eq zz.2.2.2.1, same_eq zz.2.2.2.2]
                              show sltZ _ _ _ ((0 : Int)).toNat _ ((0 : Int)).toNat = _
                              rw [show ((0 : Int)).toNat = 0 from rfl, sltZ_zero]
                              congr 1
                              omega
                            · by_cases h0 : β (l + 1) = 0
                              · exact .inl h0
                              · exact .inr ⟨b, hmem.1, by rw [hmem.2], zz.1, .inr (by rw [hmem.2]; exact h0), by rw [hmem.2]⟩
                          · cases hbase
                        · cases hbase
                      · cases hbase
                    · rename_i l len cap
                      split at hbase
                      · rename_i b nn kk lvb hfb hl1 hl2 hkd
                        split at hbase
                        · rename_i hsb hxb
                          split at hbase
                          · rename_i zz
                            simp only [Bool.and_eq_true] at zz
                            obtain ⟨⟨mm, rr⟩, hrr, e0⟩ := Option.map_eq_some_iff.1 hbase
                            injection e0 with b1 b2
                            injection b2 with b2 b3
                            injection b3 with b3 b4
                            subst b1 b2 b3 b4
                            have z3 := Nat.eq_of_beq_eq_true zz.2.2.1
                            have z4 : 0 < nn.toNat := Nat.le_of_ble_eq_true zz.2.2.2.1
                            have z5 := Nat.le_of_ble_eq_true zz.2.2.2.2.1
                            have z6 := Nat.eq_of_beq_eq_true zz.2.2.2.2.2
                            obtain ⟨c1, c2, c3⟩ := rowsTm_ok (β := β) hc hrr hm.l
                            have hmem := find_mem hfb
                            have hB := hM.hp b hmem.1
                            unfold BkOk at hB
                            rw [hsb, hxb] at hB
                            have hB : Blk w (β b.l) b.ty (denL ρ β b.cs) := hB
                            rw [hmem.2, Nat.eq_of_beq_eq_true zz.2.1] at hB
                            have hdl : (denL ρ β b.cs).length = nn.toNat * lvb.length := by unfold denL; rw [List.length_map]; exact z6
                            refine ⟨β l, nn.toNat, ⟨fun _ => ⟨(denL ρ β b.cs).toArray, hB, by rw [List.size_toArray]; exact hdl, Nat.le_trans z5 (by decide), ?_⟩, Nat.le_of_eq c1, c2⟩, ?_, .inr ⟨b, hmem.1, by rw [hmem.2], zz.1, .inl (by unfold Bk.nilable; rw [hsb, hxb]; rfl), by rw [hmem.2]⟩⟩
                            · show (denL ρ β b.cs).take _ = _
                              rw [c1, c3]
                            · show Value.slice (some ⟨β l, 0, none⟩) (den ρ len).i.toNat (den ρ cap).i.toNat = _
                              rw [isLit_eq hl1, isLit_eq hl2, c1]
                              show Value.slice (some ⟨β l, 0, none⟩) nn.toNat kk.toNat = _
                              unfold sltV
                              rw [if_neg (by omega), ← z3]
                          · cases hbase
                        · cases hbase
                      · cases hbase
                    · cases hbase
                  obtain ⟨g, cap, hrow, hxv, hold⟩ := hb
                  have htl : (den ρ (mkTA s1 r)).c = (den ρ s1).c ++ (den ρ r).c := mkTA_ok ..
                  have hbd : ((den ρ s1).c.length + (den ρ r).c.length) * i.bytes ≤ 140737488355328 := by
                    rw [List.length_append] at htot
                    have : (((den ρ s1).c.length + (den ρ r).c.length : Nat) : Int) * (i.bytes : Int) ≤ 140737488355328 := htot
                    rw [← Int.natCast_mul] at this
                    exact Int.ofNat_le.1 this
                  -- what is appended
                  have hs : ∃ A kk, yv.den ρ β = .slice A (den ρ r).c.length kk ∧ Reads w w.heap.size i.size A (den ρ r).c.length (den ρ r).c.flatten ∧ ∀ x ∈ (den ρ r).c, kAll lv' x := by
                    unfold srcT at hsrc
                    split at hsrc
                    · injection hsrc with hsrc
                      injection hsrc with b1 b2
                      subst b1 b2
                      exact ⟨none, 0, rfl, Reads.none_, fun _ h => (by cases h)⟩
                    · rename_i l off len cp
                      split at hsrc
                      · rename_i b nn hfb hlit
                        split at hsrc
                        · rename_i hsb
                          split at hsrc
                          · rename_i zz
                            simp only [Bool.and_eq_true] at zz
                            have z2 := Nat.le_of_ble_eq_true zz.1
                            have hno := Xt.isNo_eq zz.2
                            obtain ⟨c1, c2, c3⟩ := rowsTm_ok (β := β) hc hsrc hm.r.l
                            have hmem := find_mem hfb
                            have hB := hM.hp b hmem.1
                            unfold BkOk at hB
                            rw [hsb, hno] at hB
                            have hB : Blk w (β b.l) b.ty (denL ρ β b.cs) := hB
                            rw [hmem.2] at hB
                            have hfl : (den ρ r).c.flatten.length = (den ρ r).c.length * i.size := by rw [flat_len (m := lv'.length) fun x hx => kAll_len (c2 x hx), q1]
                            refine ⟨some ⟨β l, off, none⟩, (den ρ cp).i.toNat, ?_, ⟨hfl, fun h0 => ⟨_, rfl, hB.lt, fun j u hj => ?_⟩⟩, c2⟩
                            · rw [isLit_eq hlit, c1]
                              rfl
                            · rw [Addr.add_mid, hB.cell]
                              rw [c3, denL_drop, List.getElem?_take, List.getElem?_drop] at hj
                              split at hj
                              · exact hj
                              · cases hj
                          · cases hsrc
                        · cases hsrc
                      · cases hsrc
                    · rename_i l mm off len an
                      split at hsrc
                      · rename_i lvr sr hfr
                        split at hsrc
                        · rename_i zz
                          simp only [Bool.and_eq_true] at zz
                          have zlv := sameLv_eq zz.1
                          have zm := Nat.eq_of_beq_eq_true zz.2
                          subst zlv zm
                          injection hsrc with hsrc
                          injection hsrc with b1 b2
                          subst b1 b2
                          obtain ⟨ty', hB⟩ := tabFind_ok hfr hM.hp
                          obtain ⟨r1, r2, r3⟩ := inTab_ok hc hm.r.l
                          have hcap := hB.len
                          have hx := mkTC_ok hc sr off (mkAdd off len)
                          rw [mkAdd_ok] at hx
                          have hcl : (den ρ (mkTC c sr off (mkAdd off len))).c = ((den ρ sr).c.drop (den ρ off).i.toNat).take (den ρ len).i.toNat := by
                            rw [hx]
                            unfold cutL
                            congr 1
                            omega
                          have hln : (den ρ (mkTC c sr off (mkAdd off len))).c.length = (den ρ len).i.toNat := by
                            rw [hcl, List.length_take, List.length_drop]
                            omega
                          have hk : ∀ x ∈ (den ρ (mkTC c sr off (mkAdd off len))).c, kAll lv' x := fun x hx => by
                            rw [hcl] at hx
                            exact hB.ok x (List.mem_of_mem_drop (List.mem_of_mem_take hx))
                          have hfl : (den ρ (mkTC c sr off (mkAdd off len))).c.flatten.length = (den ρ (mkTC c sr off (mkAdd off len))).c.length * i.size := by rw [flat_len (m := lv'.length) fun x hx => kAll_len (hk x hx), q1]
                          by_cases h0 : β (l + 1) = 0
                          · have e0 : (den ρ (mkTC c sr off (mkAdd off len))).c = [] := List.eq_nil_of_length_eq_zero (by omega)
                            refine ⟨none, 0, ?_, ?_, hk⟩
                            · show C.den ρ β (.slt l lv'.length off len an) = _
                              rw [slt_den, hln]
                              unfold sltZ
                              rw [if_pos h0]
                              congr 1
                              omega
                            · rw [e0]
                              exact Reads.none_
                          · refine ⟨some ⟨β l, (if β (l + 1) = (den ρ off).i.toNat then (den ρ an).i.toNat else (den ρ off).i.toNat) * lv'.length, none⟩, β (l + 1) - (den ρ off).i.toNat, ?_, ⟨hfl, fun hpos => ⟨_, rfl, ?_, fun j u hj => ?_⟩⟩, hk⟩
                            · show C.den ρ β (.slt l lv'.length off len an) = _
                              rw [slt_den, hln]
                              unfold sltZ
                              rw [if_neg h0]
                            · obtain ⟨cur, hh, _⟩ := hB.row h0
                              exact (Array.getElem?_eq_some_iff.1 hh).1
                            · have hjl := (List.getElem?_eq_some_iff.1 hj).1
                              rw [hfl, hln, ← q1] at hjl
                              have hL : 0 < lv'.length := by omega
                              -- the row and the field of cell j
                              have hdm := Nat.div_add_mod j lv'.length
                              have hmod := Nat.mod_lt j hL
                              have hdiv : j / lv'.length < (den ρ len).i.toNat := Nat.div_lt_of_lt_mul (by rw [Nat.mul_comm]; exact hjl)
                              have hj' : j = j / lv'.length * lv'.length + j % lv'.length := by rw [Nat.mul_comm]; omega
                              rw [hj', flat_get (m := lv'.length) (fun x hx => kAll_len (hk x hx)) (by omega) hmod, hcl] at hj
                              rw [show (((den ρ sr).c.drop (den ρ off).i.toNat).take (den ρ len).i.toNat).getD (j / lv'.length) [] = (den ρ sr).c.getD ((den ρ off).i.toNat + j / lv'.length) [] from by
                                rw [List.getD, List.getElem?_take, if_pos hdiv, List.getElem?_drop]
                                rfl] at hj
                              have := hB.cell (by omega) hj
                              rw [if_neg (by omega), Addr.add_mid]
                              rw [show (den ρ off).i.toNat * lv'.length + j = ((den ρ off).i.toNat + j / lv'.length) * lv'.length + j % lv'.length from by rw [Nat.add_mul]; omega]
                              exact this
                        · cases hsrc
                      · cases hsrc
                    · cases hsrc
                  obtain ⟨A, kk, hyv, hreads, hrk⟩ := hs
                  obtain ⟨g', c', w', hrun, hG⟩ := app_tab (ty := o.type) ht hi hz q2 q1 q3 q4 hrow hreads rfl hrk hbd
                  refine ⟨upd (upd β n g') (n + 1) c', w', ?_, hM.growT n hn hf hf1 hG htl hold⟩
                  obtain ⟨callee, args, ats⟩ := k
                  simp only [] at hcal hargs hats
                  subst hcal
                  have e1 : args = #[x, y] := by cases args; simp at hargs; rw [hargs]
                  have e2 : ats = #[t, t] := by cases ats; simp at hats; rw [hats]
                  subst e1 e2
                  have hval : C.den ρ (upd (upd β n g') (n + 1) c') (.slt n lv'.length (.il 0) (mkTL c (mkTA s1 r)) (.il 0)) = sltV g' c' ((den ρ s1).c.length + (den ρ r).c.length) := by
                    rw [slt_den, upd_new, upd_old (show n ≠ n + 1 from by omega), upd_new, mkTL_ok hc, htl, List.length_append]
                    exact sltZ_zero _ _ _ _
                  rw [hval]
                  unfold execOp
                  rw [← hxv, ← hyv] at hrun
                  simp only [ho, resolve, invoke, builtin, Sem.run_bind, Sem.run_pure, Result.andThen_ok, List.map_toArray, List.map_cons, List.map_nil, hev _ _ hx, hev _ _ hy, hrun]
                · cases h
              · cases h
            · cases h
          · cases h
        · cases h
      · cases h
    · cases h
  · cases h
/-! Clear. -/
def zeroK : Kd → Value
  | .int k => .int k 0
  | .bool => .bool false
  | .str => .string none8
  | .ptr => .pointer none
  | .sls => .slice none 0 0
def zeroC : Kd → Option C
  | .int k => some (.int k (.il 0))
  | .bool => some (.bool (.bl false))
  | .str => some (.str (.sl []))
  | .ptr => none
  | .sls => none
def zerosOk : List Kd → List C → Bool
  | [], [] => true
  | k :: lv, x :: cs => (match zeroC k with | some y => sameC y x | none => false) && zerosOk lv cs
  | _, _ => false
theorem zerosOk_ok {ρ : Env} {β : Bn} : ∀ {lv : List Kd} {cs : List C}, zerosOk lv cs = true → denL ρ β cs = lv.map zeroK ∧ ∀ r, kAll lv r → zeroR r = lv.map zeroK ∧ kAll lv (lv.map zeroK)
  | [], [], _ => ⟨rfl, fun r hr => by
    rw [List.eq_nil_of_length_eq_zero (kAll_len hr)]
    exact ⟨rfl, trivial⟩⟩
  | k :: lv, x :: cs, h => by
    simp only [zerosOk, Bool.and_eq_true] at h
    obtain ⟨i1, i2⟩ := zerosOk_ok (ρ := ρ) (β := β) h.2
    have h1 := h.1
    split at h1
    · rename_i y hy
      have hx := sameC_eq h1
      subst hx
      refine ⟨?_, fun r hr => ?_⟩
      · rw [List.map_cons, ← i1]
        show C.den ρ β y :: denL ρ β cs = _
        congr 1
        cases k <;> simp only [zeroC] at hy <;> first
          | (injection hy with hy; subst hy; rfl)
          | cases hy
      · cases r with
        | nil => exact hr.elim
        | cons v r =>
          obtain ⟨j1, j2⟩ := i2 r hr.2
          refine ⟨?_, ?_, j2⟩
          · show zeroV v :: zeroR r = zeroK k :: _
            rw [j1]
            congr 1
            cases k with
            | int k => obtain ⟨n, rfl, _⟩ := hr.1; rfl
            | bool => obtain ⟨n, rfl⟩ := hr.1; rfl
            | str => obtain ⟨n, rfl, _⟩ := hr.1; rfl
            | ptr => cases hy
            | sls => cases hy
          · cases k with
            | int k => exact ⟨0, rfl, by cases k <;> decide⟩
            | bool => exact ⟨false, rfl⟩
            | str => exact ⟨none8, rfl, Nat.zero_le _⟩
            | ptr => cases hy
            | sls => cases hy
    · cases h1
  | [], _ :: _, h => by cases h
  | _ :: _, [], h => by cases h
theorem zeroCells_rows (z : Array Value) (n : Nat) : (Builtin.zeroCells z n).toList = (List.replicate n z.toList).flatten := by
  rcases Nat.eq_zero_or_pos z.size with h0 | h0
  · have : z = #[] := Array.eq_empty_of_size_eq_zero h0
    subst this
    simp [Builtin.zeroCells]
  · have hr : ∀ x ∈ List.replicate n z.toList, x.length = z.size := fun x hx => by rw [List.eq_of_mem_replicate hx]; simp
    have hl := flat_len hr
    rw [List.length_replicate] at hl
    apply List.ext_getElem
    · rw [hl]; simp [Builtin.zeroCells]
    · intro j h1 h2
      have hj : j < n * z.size := by rw [← hl]; exact h2
      have hd := Nat.div_add_mod j z.size
      have hm := Nat.mod_lt j h0
      have hdiv : j / z.size < n := Nat.div_lt_of_lt_mul (by rw [Nat.mul_comm]; exact hj)
      have hj' : j = j / z.size * z.size + j % z.size := by rw [Nat.mul_comm]; omega
      have := flat_get (m := z.size) hr (i := j / z.size) (f := j % z.size) (by rw [List.length_replicate]; exact hdiv) hm
      rw [← hj'] at this
      have e1 : ((List.replicate n z.toList).getD (j / z.size) []) = z.toList := by
        rw [List.getD, List.getElem?_replicate, if_pos hdiv]
        rfl
      rw [e1, List.getElem?_eq_getElem h2] at this
      have e2 : z.toList[j % z.size]? = some z[j % z.size] := by simp [hm]
      rw [e2] at this
      injection this with this
      rw [this]
      simp [Builtin.zeroCells, hm]
theorem run_clear_rows {P : Program} (w : World) (t e ty : TypeId) (z : Value) (ht : P.underlying t = some (.slice e)) (hv : ∀ w, (zeroValue e).run P w = .ok z w) (h1 : ∀ v ∈ z.cells.toList, v.oneCell' = true) (b o n c : Nat) (hn : 0 < n)
    (hc : ∀ j, j < n * z.cells.size → (w.cell? ⟨b, o + j, none⟩).isSome = true) (hf : ∀ j, j < n * z.cells.size → w.frozen? ⟨b, o + j, none⟩ = false) :
    (Builtin.clear_ #[t] ty #[.slice (some ⟨b, o, none⟩) n c]).run P w = .ok (.tuple #[]) (w.setCells b o (List.replicate n z.cells.toList).flatten) := by
  have hzc := zeroCells_rows z.cells n
  have hlen : (List.replicate n z.cells.toList).flatten.length = n * z.cells.size := by
    rw [flat_len (m := z.cells.size) fun x hx => by rw [List.eq_of_mem_replicate hx]; simp, List.length_replicate]
  have hst := run_storeCells_cells (P := P) b o (List.replicate n z.cells.toList).flatten 0 w (by rw [hlen]; simpa using hc) (by rw [hlen]; simpa using hf) (by
    intro v hv'
    obtain ⟨r, hr, hu⟩ := List.mem_flatten.1 hv'
    rw [List.eq_of_mem_replicate hr] at hu
    exact h1 v hu)
  simp only [Nat.add_zero] at hst
  obtain ⟨m, rfl⟩ : ∃ m, n = m + 1 := ⟨n - 1, by omega⟩
  simp [Builtin.clear_, run_underlying ht, hv, hzc, hst]
def clearT (P : Program) (c : Cx) (hp : List Bk) (ev : Operand → Option SV) (k : Call) : Option (List Tm × List Bk) :=
  match k.callee, k.args.toList, k.argTypes.toList with
  | .builtin .clear, [x], [t] =>
    match ev x, P.underlying t with
    | some (.one (.c (.slt l m off len an))), some (.slice e) =>
      match find l hp, zeroS P e with
      | some b, some cs =>
        match b.str, b.x with
        | none, .tab lv s => if b.rw && (Nat.beq m lv.length && zerosOk lv cs) then some (need c (.le (.il 0) off) ++ (need c (.le (.il 0) len) ++ (need c (.le (mkAdd off len) (mkTL c s)) ++ need c (.le (mkTL c s) (mkAdd off len)))), replHp { b with x := .tab lv (.tb .clr s off (.il 0)) } hp) else none
        | _, _ => none
      | _, _ => none
    | _, _ => none
  | _, _, _ => none
theorem zeroS_val {ρ : Env} {β : Bn} {P : Program} {t : TypeId} {cs : List C} (h : zeroS P t = some cs) : ∃ z : Value, z.cells.toList = denL ρ β cs ∧ ∀ w, (zeroValue t).run P w = .ok z w := by
  unfold zeroS at h
  split at h
  · rename_i i hi
    split at h
    · rename_i z hz
      refine ⟨z, (ofCs_ok (ρ := ρ) (β := β) h).symm, fun w => ?_⟩
      simp only [zeroValue, typeInfo, Sem.run_bind, run_program, Result.andThen_ok, hi, hz, Sem.run_pure]
    · cases h
  · cases h
theorem clr_flat {l : List (List Value)} {zs : List Value} {m o : Nat} (hl : ∀ r ∈ l, r.length = m) (hz : ∀ r ∈ l, zeroR r = zs) (hzl : zs.length = m) (ho : o ≤ l.length) : (l.take o ++ (l.drop o).map zeroR).flatten = overV l.flatten (o * m) (List.replicate (l.length - o) zs).flatten := by
  have e1 : (l.drop o).map zeroR = List.replicate (l.length - o) zs := by
    rw [← List.length_drop]
    generalize hd : l.drop o = d
    have hm : ∀ r ∈ d, zeroR r = zs := fun r hr => hz r (List.mem_of_mem_drop (by rw [hd]; exact hr))
    clear hd
    induction d with
    | nil => rfl
    | cons r d ih =>
      rw [List.map_cons, List.length_cons, List.replicate_succ, hm r (List.mem_cons_self ..), ih fun x hx => hm x (List.mem_cons_of_mem _ hx)]
  have e2 : (List.replicate (l.length - o) zs).flatten.length = (l.length - o) * m := by
    rw [flat_len (m := m) fun x hx => by rw [List.eq_of_mem_replicate hx]; exact hzl, List.length_replicate]
  have e3 : l.flatten.length = l.length * m := flat_len hl
  have e4 : (l.take o).flatten = l.flatten.take (o * m) := by
    have h1 : (l.take o).flatten.length = o * m := by
      rw [flat_len (m := m) fun x hx => hl x (List.mem_of_mem_take hx), List.length_take, Nat.min_eq_left ho]
    have h2 : l.flatten = (l.take o).flatten ++ (l.drop o).flatten := by rw [← List.flatten_append, List.take_append_drop]
    rw [h2, List.take_append_of_le_length (by omega)]
    exact (List.take_of_length_le (by omega)).symm
  rw [List.flatten_append, e1, e4]
  unfold overV
  rw [e2]
  have h5 : o * m + (l.length - o) * m = l.length * m := by
    rw [← Nat.add_mul]
    congr 1
    omega
  rw [h5, List.drop_of_length_le (by omega), List.append_nil]
theorem clearT_ok {ρ : Env} (hρ : ρ.good) {β : Bn} {P : Program} {S : Nat → Prop} {w0 w : World} {β0 : Bn} {n0 : Nat} {s : St} {a : Act} (hM : Md ρ S w0 β0 n0 s β a w) {c : Cx} (hc : c.ok ρ) {ev : Operand → Option SV} (hev : ∀ x v, ev x = some v → a.eval x = v.den ρ β)
    {o : Oper} {k : Call} (ho : o.op = .call k) {m : List Tm} {hp' : List Bk} (h : clearT P c s.hp ev k = some (m, hp')) (hm : Met ρ m) :
    ∃ w', (execOp a.eval o).run P w = .ok (.value (.tuple #[])) w' ∧ Md ρ S w0 β0 n0 { s with hp := hp' } β a w' := by
  unfold clearT at h
  split at h
  · rename_i x t hcal hargs hats
    split at h
    · rename_i l mm off len an e hx ht
      split at h
      · rename_i b cs hf hz
        split at h
        · rename_i lv tt hs hxx
          split at h
          · rename_i q
            simp only [Bool.and_eq_true] at q
            have q1 := Nat.eq_of_beq_eq_true q.2.1
            injection h with h
            injection h with e1 e2
            subst e1 e2 q1
            obtain ⟨z, hzc, hzv⟩ := zeroS_val (ρ := ρ) (β := β) hz
            obtain ⟨k1, k2⟩ := zerosOk_ok (ρ := ρ) (β := β) q.2.2
            have m1 := le_of (need_ok hc hm.l)
            have m2 := le_of (need_ok hc hm.r.l)
            have m3 := le_of (need_ok hc hm.r.r.l)
            have m4 := le_of (need_ok hc hm.r.r.r)
            rw [mkTL_ok hc, mkAdd_ok] at m3 m4
            change (0 : Int) ≤ _ at m1
            change (0 : Int) ≤ _ at m2
            have hmem := find_mem hf
            have hB0 := hM.hp b hmem.1
            unfold BkOk at hB0
            rw [hs, hxx] at hB0
            have hB : RowT w (β b.l) (β (b.l + 1)) b.ty lv (den ρ tt).c := hB0
            have hlen := hB.len
            have hoth : ∀ w', (∀ x ∈ s.hp, x.l ≠ b.l → BkOk ρ β w' x) → Only S w0 w' → RowT w' (β b.l) (β (b.l + 1)) b.ty lv (den ρ (.tb .clr tt off (.il 0))).c → Md ρ S w0 β0 n0 { s with hp := replHp { b with x := .tab lv (.tb .clr tt off (.il 0)) } s.hp } β a w' := fun w' h1 h2 h3 =>
              hM.repl (b := b) (nb := { b with x := .tab lv (.tb .clr tt off (.il 0)) }) hmem.1 rfl (fun hr => by
                refine hr.imp (fun h => ?_) id
                unfold Bk.nilable at h ⊢
                rw [hs] at h ⊢
                cases h) (fun h => h) h2 (by
                unfold BkOk
                rw [hs]
                exact h3) h1
            have hrun : ∃ w', (Builtin.clear_ #[t] o.type #[C.den ρ β (.slt l lv.length off len an)]).run P w = .ok (.tuple #[]) w' ∧ (∀ x ∈ s.hp, x.l ≠ b.l → BkOk ρ β w' x) ∧ Only S w0 w' ∧ RowT w' (β b.l) (β (b.l + 1)) b.ty lv (den ρ (.tb .clr tt off (.il 0))).c := by
              have hnew : (den ρ (.tb .clr tt off (.il 0))).c = (den ρ tt).c.take (den ρ off).i.toNat ++ ((den ρ tt).c.drop (den ρ off).i.toNat).map zeroR := rfl
              rw [hnew]
              by_cases h0 : (den ρ len).i.toNat = 0
              · have hdrop : (den ρ tt).c.drop (den ρ off).i.toNat = [] := List.drop_of_length_le (by omega)
                refine ⟨w, ?_, fun x hx _ => hM.hp x hx, hM.only, ?_⟩
                · rw [slt_den, h0]
                  unfold sltZ
                  split <;> simp [Builtin.clear_, run_underlying ht]
                · rw [hdrop, List.map_nil, List.append_nil, List.take_of_length_le (by omega)]
                  exact hB
              · have hc0 : β (b.l + 1) ≠ 0 := by omega
                have hreal : b.real β := .inr hc0
                have hmay := hM.may0 b hmem.1 q.1 hreal
                obtain ⟨cur, c1, c2, c3, c4⟩ := hB.blk hc0
                have hzl : z.cells.size = lv.length := by
                  have := congrArg List.length hzc
                  rw [k1, List.length_map] at this
                  simpa using this
                have hzl' : (lv.map zeroK).length = lv.length := List.length_map ..
                have hcl2 : (den ρ tt).c.length * lv.length ≤ cur.length := by rw [c2]; exact Nat.mul_le_mul_right _ hlen
                have hin : (den ρ off).i.toNat * lv.length + (den ρ len).i.toNat * lv.length = (den ρ tt).c.length * lv.length := by
                  rw [← Nat.add_mul]
                  congr 1
                  omega
                have hlo : (den ρ len).i.toNat = (den ρ tt).c.length - (den ρ off).i.toNat := by omega
                have hfl : (List.replicate (den ρ len).i.toNat (lv.map zeroK)).flatten.length = (den ρ len).i.toNat * lv.length := by
                  rw [flat_len (m := lv.length) fun x hx => by rw [List.eq_of_mem_replicate hx]; exact hzl', List.length_replicate]
                have hrun := run_clear_rows (P := P) w t e o.type z ht hzv (fun v hv => by
                  rw [hzc] at hv
                  exact denL_one hρ β cs v hv) (β b.l) ((den ρ off).i.toNat * lv.length) (den ρ len).i.toNat (β (b.l + 1) - (den ρ off).i.toNat) (by omega) (fun j hj => by
                  rw [hzl] at hj
                  rw [c1.cell, List.getElem?_eq_getElem (by omega)]
                  rfl) (fun j hj => c1.frozen _)
                rw [hzc, k1] at hrun
                refine ⟨w.setCells (β b.l) ((den ρ off).i.toNat * lv.length) (List.replicate (den ρ len).i.toNat (lv.map zeroK)).flatten, ?_, fun x hx hne => hM.others (b := b) hmem.1 hreal (fun g hg => setCells_heap (w := w) hg _ _ _) x hx hne, setCells_only hmay _ _ hM.only, ?_⟩
                · rw [slt_den, ← hmem.2]
                  unfold sltZ
                  rw [if_neg hc0, if_neg (show ¬ β (b.l + 1) = (den ρ off).i.toNat by omega)]
                  exact hrun
                · have hst := setCells_same (List.replicate (den ρ len).i.toNat (lv.map zeroK)).flatten ((den ρ off).i.toNat * lv.length) c1 (by rw [hfl]; omega)
                  have hrows := hB.rows
                  have hflat := clr_flat (l := (den ρ tt).c) (zs := lv.map zeroK) (m := lv.length) (o := (den ρ off).i.toNat) hrows (fun r hr => (k2 r (hB.ok r hr)).1) hzl' (by omega)
                  have hlen2 : ((den ρ tt).c.take (den ρ off).i.toNat ++ ((den ρ tt).c.drop (den ρ off).i.toNat).map zeroR).length = (den ρ tt).c.length := by
                    rw [List.length_append, List.length_map, ← List.length_append, List.take_append_drop]
                  refine RowT.of_blk hst ?_ c3 ?_ (by rw [hlen2]; exact hlen) ?_
                  · have := overV_len (cs := cur) (o := (den ρ off).i.toNat * lv.length) (vs := (List.replicate (den ρ len).i.toNat (lv.map zeroK)).flatten) (by rw [hfl]; omega)
                    exact this.trans c2
                  · rw [hlen2, hflat, ← hlo]
                    exact flat_take_over (o := (den ρ off).i.toNat * lv.length) (vs := (List.replicate (den ρ len).i.toNat (lv.map zeroK)).flatten) c4 hcl2 (by rw [hfl]; omega)
                  · intro r hr
                    rcases List.mem_append.1 hr with hr | hr
                    · exact hB.ok r (List.mem_of_mem_take hr)
                    · obtain ⟨r', hr', rfl⟩ := List.mem_map.1 hr
                      have := k2 r' (hB.ok r' (List.mem_of_mem_drop hr'))
                      rw [this.1]
                      exact this.2
            obtain ⟨w', hrun, h1, h2, h3⟩ := hrun
            refine ⟨w', ?_, hoth w' h1 h2 h3⟩
            obtain ⟨callee, args, ats⟩ := k
            simp only [] at hcal hargs hats
            subst hcal
            have e1 : args = #[x] := by cases args; simp at hargs; rw [hargs]
            have e2 : ats = #[t] := by cases ats; simp at hats; rw [hats]
            subst e1 e2
            have hxv := hev _ _ hx
            change a.eval x = C.den ρ β (.slt l lv.length off len an) at hxv
            unfold execOp
            simp only [ho, resolve, invoke, builtin, Sem.run_bind, Sem.run_pure, Result.andThen_ok, List.map_toArray, List.map_cons, List.map_nil, hxv, hrun]
          · cases h
        · cases h
      · cases h
    · cases h
  · cases h
/-- Operations that turn tables: what is to be shown, the blocks and the letters behind them, the value. -/
def tabS (P : Program) (n0 : Nat) (s : St) (o : Oper) (n : Nat) : Option (List Tm × List Bk × Nat × SV) :=
  match o.op with
  | .store t x y => match opd s.tm x, opd s.tm y with
    | some x, some y => (storeT P s.cx s.hp t x y).map fun r => (r.1, r.2, s.nx, undS)
    | _, _ => none
  | .call k => match growT P s.cx s.hp (opd s.tm) k with
    | some (m, old, e, lv, t) => if Nat.ble n0 n && (s.free n && s.free (n + 1)) then some (m, (s.growT n e old lv t).hp, max s.nx (n + 2), .one (.c (.slt n lv.length (.il 0) (mkTL s.cx t) (.il 0)))) else none
    | none => match clearT P s.cx s.hp (opd s.tm) k with
      | some (m, hp) => some (m, hp, s.nx, undS)
      | none => none
  | _ => none
theorem tabS_ok {ρ : Env} (hρ : ρ.good) {β : Bn} {P : Program} {S : Nat → Prop} {w0 w : World} {β0 : Bn} {n0 : Nat} {s s1 : St} {a : Act} (hM : Md ρ S w0 β0 n0 s1 β a w) (ehp : s1.hp = s.hp) (etm : s1.tm = s.tm) (hc : s.cx.ok ρ) {o : Oper} {n : Nat} {m : List Tm} {hp' : List Bk} {nx' : Nat} {v : SV}
    (h : tabS P n0 s o n = some (m, hp', nx', v)) (hm : Met ρ m) : ∃ β' w' r, (execOp a.eval o).run P w = .ok r w' ∧ (r = .value (v.den ρ β') ∨ r = .skip ∧ v = undS) ∧ Md ρ S w0 β0 n0 { s1 with hp := hp', nx := nx' } β' a w' := by
  have hev : ∀ x v, opd s.tm x = some v → a.eval x = v.den ρ β := fun x v hx => Sy.Md.opd hM (by rw [etm]; exact hx)
  unfold tabS at h
  split at h
  · rename_i t x y ho
    split at h
    · rename_i x' y' hx hy
      obtain ⟨r, hst, e⟩ := Option.map_eq_some_iff.1 h
      injection e with e1 e
      injection e with e2 e
      injection e with e3 e4
      subst e1 e2 e3 e4
      obtain ⟨w', hrun, hM'⟩ := storeT_ok hρ hM hc (by rw [ehp]; exact hst) hm
      refine ⟨β, w', .skip, ?_, .inr ⟨rfl, rfl⟩, ⟨hM'.act, hM'.hp, hM'.ne, hM'.may, hM'.cx, hM'.only, hM'.old⟩⟩
      unfold execOp
      simp only [ho, hev _ _ hx, hev _ _ hy, Sem.run_bind, hrun, Result.andThen_ok, Sem.run_pure]
    · cases h
  · rename_i k ho
    split at h
    · rename_i m' old e lv t hg
      split at h
      · rename_i q
        simp only [Bool.and_eq_true] at q
        injection h with h
        injection h with e1 h
        injection h with e2 h
        injection h with e3 e4
        subst e1 e2 e3 e4
        have efr : ∀ j, s1.free j = s.free j := fun j => by unfold St.free; rw [ehp, etm]
        obtain ⟨β', w', hrun, hM'⟩ := growT_ok hM hc hev ho (by rw [ehp]; exact hg) hm n (Nat.le_of_ble_eq_true q.1) (by rw [efr]; exact q.2.1) (by rw [efr]; exact q.2.2)
        refine ⟨β', w', _, hrun, .inl rfl, ⟨hM'.act, ?_, ?_, ?_, hM'.cx, hM'.only, hM'.old⟩⟩
        · have := hM'.hp
          unfold St.growT at this ⊢
          rw [ehp] at this
          exact this
        · have := hM'.ne
          unfold St.growT at this ⊢
          rw [ehp] at this
          exact this
        · have := hM'.may
          unfold St.growT at this ⊢
          rw [ehp] at this
          exact this
      · cases h
    · split at h
      · rename_i m' hp2 hcl
        injection h with h
        injection h with e1 h
        injection h with e2 h
        injection h with e3 e4
        subst e1 e2 e3 e4
        obtain ⟨w', hrun, hM'⟩ := clearT_ok hρ hM hc hev ho (by rw [ehp]; exact hcl) hm
        exact ⟨β, w', _, hrun, .inl rfl, ⟨hM'.act, hM'.hp, hM'.ne, hM'.may, hM'.cx, hM'.only, hM'.old⟩⟩
      · cases h
  · cases h
end Sy
end Go.Proofs.Ytnmfmjlpfhdgeaa
