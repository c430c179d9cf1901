/- Rows of bytes: slices of them, their places, strings made of them, their lengths. -/
import Derived.Test.YtnmfmjlpfhdgeaaSyH
import Derived.Laws.IdiomStrings
import Derived.Laws.BytesArg
namespace Go.Proofs.Ytnmfmjlpfhdgeaa
namespace Sy
open Go Go.RowKit Go.BigFrame
set_option linter.unusedVariables false
set_option linter.unusedSimpArgs false

def rowFind (hp : List Bk) (l : Nat) : Option Tm :=
  match find l hp with
  | some b => b.str
  | none => none
theorem rowFind_ok {ρ : Env} {β : Bn} {w : World} {hp : List Bk} {l : Nat} {s : Tm} (h : rowFind hp l = some s) (hb : ∀ b ∈ hp, BkOk ρ β w b) : ∃ ty own, RowB w (β l) (β (l + 1)) ty own (den ρ s).s.data.toList := by
  unfold rowFind at h
  split at h
  · rename_i b hf
    have hm := find_mem hf
    have hB := hb b hm.1
    unfold BkOk at hB
    rw [h] at hB
    rw [hm.2] at hB
    exact ⟨_, _, hB⟩
  · cases h
/-- A part of a row that lies in it. -/
def inRow (c : Cx) (s off len : Tm) : List Tm := need c (.le (.il 0) off) ++ (need c (.le (.il 0) len) ++ need c (.le (mkAdd off len) (mkLen c s)))
theorem inRow_ok {ρ : Env} {c : Cx} (hc : c.ok ρ) {s off len : Tm} (h : Met ρ (inRow c s off len)) : 0 ≤ (den ρ off).i ∧ 0 ≤ (den ρ len).i ∧ (den ρ off).i + (den ρ len).i ≤ ((den ρ s).s.data.toList.length : Int) := by
  have h1 := le_of (need_ok hc h.l)
  have h2 := le_of (need_ok hc h.r.l)
  have h3 := le_of (need_ok hc h.r.r)
  rw [mkAdd_ok, mkLen_ok hc] at h3
  refine ⟨h1, h2, ?_⟩
  simp
  exact h3
/-- The value of a part of a row. -/
def slrV (g c o n : Nat) : Value := if c = 0 then .slice none 0 0 else .slice (some ⟨g, if c = o then 0 else o, none⟩) n (c - o)
/-- The same; z: where its place is told to be if nothing lies behind it in the block. -/
def slrZ (g c o n z : Nat) : Value := if c = 0 then .slice none 0 0 else .slice (some ⟨g, if c = o then z else o, none⟩) n (c - o)
theorem slrZ_zero (g c n z : Nat) : slrZ g c 0 n z = slrV g c 0 n := by
  unfold slrZ slrV
  by_cases h : c = 0
  · rw [if_pos h, if_pos h]
  · rw [if_neg h, if_neg h, if_neg h, if_neg h]
theorem slr_den (ρ : Env) (β : Bn) (l : Nat) (off len an : Tm) : C.den ρ β (.slr l off len an) = slrZ (β l) (β (l + 1)) (den ρ off).i.toNat (den ρ len).i.toNat (den ρ an).i.toNat := rfl

def loOf : Option (IntKind × Tm) → Tm
  | some (_, x) => x
  | none => .il 0
def hiOf (len : Tm) : Option (IntKind × Tm) → Tm
  | some (_, x) => x
  | none => len
def anOf (c : Cx) (off len an lo : Tm) : Option Tm :=
  if same lo (.il 0) then some an
  else if same off (.il 0) || sure c (.lt lo len) then some (.il 0)
  else if sure c (.lt (.il 0) lo) then some off
  else none
def rowCut (P : Program) (c : Cx) (hp : List Bk) (t : TypeId) (l : Nat) (off len an : Tm) (lo hi : Option (IntKind × Tm)) : PR :=
  match rowFind hp l, P.underlying t with
  | some s, some (.slice e) =>
    match P.info? e, anOf c off len an (loOf lo) with
    | some i, some z =>
      if Nat.beq i.size 1 then
        some (inRow c s off len ++ (need c (.le (.il 0) (loOf lo)) ++ (need c (.le (loOf lo) (hiOf len hi)) ++ need c (.le (hiOf len hi) len))), .one (.c (.slr l (mkAdd off (loOf lo)) (mkSub (hiOf len hi) (loOf lo)) z)))
      else none
    | _, _ => none
  | _, _ => none
theorem slrZ_cut {g c o n L H z z' : Nat} (h1 : o + n ≤ c) (h2 : L ≤ H) (h3 : H ≤ n) (hs : (L = 0 ∧ z' = z) ∨ (o = 0 ∧ z' = 0) ∨ L < n ∨ (0 < L ∧ z' = o)) :
    ∃ (a : Option Addr) (cap : Nat), slrZ g c o n z = .slice a n cap ∧ n ≤ cap ∧ sliced a L H cap 1 = slrZ g c (o + L) (H - L) z' := by
  unfold slrZ
  by_cases hc : c = 0
  · rw [if_pos hc, if_pos hc]
    have : n = 0 := by omega
    have hL : L = 0 := by omega
    have hH : H = 0 := by omega
    subst this hL hH
    exact ⟨none, 0, rfl, Nat.le_refl _, rfl⟩
  · rw [if_neg hc, if_neg hc]
    refine ⟨_, _, rfl, by omega, ?_⟩
    unfold sliced
    by_cases hL : L = 0
    · subst hL
      simp only [Nat.add_zero, Nat.zero_mul, Nat.sub_zero, Option.map_some, Go.Addr.add_zero']
      by_cases ho : c = o
      · have hz : z' = z := by
          rcases hs with h | h | h | h <;> omega
        rw [if_pos ho, if_pos ho, hz]
        split <;> rfl
      · rw [if_neg ho, if_neg ho]
        split <;> rfl
    · have ho : c ≠ o := by omega
      rw [if_neg ho]
      by_cases hcl : c - o = L
      · have hz : z' = o := by
          rcases hs with h | h | h | h <;> omega
        subst hz
        rw [if_pos hcl, if_pos (by omega)]
        congr 1
        omega
      · rw [if_neg hcl, if_neg (by omega), Option.map_some, Nat.mul_one, Addr.add_mid]
        congr 1
        omega
theorem rowCut_ok {ρ : Env} {β : Bn} {P : Program} {c : Cx} (hc : c.ok ρ) {hp : List Bk} {w : World} (hb : ∀ b ∈ hp, BkOk ρ β w b) {t : TypeId} {l : Nat} {off len an : Tm} {lo hi : Option (IntKind × Tm)} {m : List Tm} {r : SV}
    (h : rowCut P c hp t l off len an lo hi = some (m, r)) (hm : Met ρ m) :
    (Instr.sliceAt t (C.den ρ β (.slr l off len an)) (lo.map fun p => Value.int p.1 (den ρ p.2).i) (hi.map fun p => Value.int p.1 (den ρ p.2).i) none).run P w = .ok (r.den ρ β) w := by
  unfold rowCut at h
  split at h
  · rename_i s e hf ht
    obtain ⟨ty, own, hB⟩ := rowFind_ok hf hb
    split at h
    · rename_i i z hi' hz
      split at h
      · rename_i q
        have q1 := Nat.eq_of_beq_eq_true q
        injection h with h
        injection h with e1 e2
        subst e1 e2
        obtain ⟨b1, b2, b3⟩ := inRow_ok hc hm.l
        have m1 := le_of (need_ok hc hm.r.l)
        have m2 := le_of (need_ok hc hm.r.r.l)
        have m3 := le_of (need_ok hc hm.r.r.r)
        have hcap := hB.len
        have hE : P.elem t = e := by simp [Program.elem, ht]
        have ht' : P.underlying t = some (.slice (P.elem t)) := by rw [hE]; exact ht
        generalize hlo : loOf lo = loT at *
        generalize hhi : hiOf len hi = hiT at *
        change (0 : Int) ≤ _ at m1
        have hst : ((den ρ loT).i.toNat = 0 ∧ (den ρ z).i.toNat = (den ρ an).i.toNat) ∨ ((den ρ off).i.toNat = 0 ∧ (den ρ z).i.toNat = 0) ∨ (den ρ loT).i.toNat < (den ρ len).i.toNat ∨ (0 < (den ρ loT).i.toNat ∧ (den ρ z).i.toNat = (den ρ off).i.toNat) := by
          unfold anOf at hz
          split at hz
          · rename_i q
            injection hz with hz
            subst hz
            rw [same_eq q]
            exact .inl ⟨rfl, rfl⟩
          · split at hz
            · rename_i q
              injection hz with hz
              subst hz
              simp only [Bool.or_eq_true] at q
              rcases q with q | q
              · rw [same_eq q]; exact .inr (.inl ⟨rfl, rfl⟩)
              · have := lt_of (sure_ok hc q)
                exact .inr (.inr (.inl (by omega)))
            · split at hz
              · rename_i q
                injection hz with hz
                subst hz
                have := lt_of (sure_ok hc q)
                change (0 : Int) < _ at this
                exact .inr (.inr (.inr ⟨by omega, rfl⟩))
              · cases hz
        obtain ⟨a, cap, hv, hle, hres⟩ := slrZ_cut (z := (den ρ an).i.toNat) (z' := (den ρ z).i.toNat) (g := β l) (c := β (l + 1)) (o := (den ρ off).i.toNat) (n := (den ρ len).i.toNat) (L := (den ρ loT).i.toNat) (H := (den ρ hiT).i.toNat) (by omega) (by omega) (by omega) hst
        rw [slr_den, hv, run_sliceAt_slice w t _ _ _ _ ht', run_slice_any w t _ _ _ ht']
        have hsz : (sizeOf (P.elem t)).run P w = .ok 1 w := by rw [hE]; simp [sizeOf, typeInfo, hi', q1]
        have hib : ∀ (k : IntKind) (n : Int) (y : Nat) (code : BoundsCode), 0 ≤ n → n ≤ y → (Instr.sliceBound (.int k n) y code).run P w = .ok n.toNat w := fun k n y code h1 h2 => by
          simp [Instr.sliceBound, asIntOf, h1, h2]
        have hbd : (Instr.sliceBounds true (den ρ len).i.toNat cap (lo.map fun p => Value.int p.1 (den ρ p.2).i) (hi.map fun p => Value.int p.1 (den ρ p.2).i) none).run P w = .ok ((den ρ loT).i.toNat, (den ρ hiT).i.toNat, cap) w := by
          rcases lo with _ | ⟨k, x⟩ <;> rcases hi with _ | ⟨k', y⟩ <;> simp only [loOf, hiOf] at hlo hhi <;> subst hlo hhi
          · simp only [Option.map_none, Instr.sliceBounds, Sem.run_bind, Sem.run_pure, Result.andThen_ok]
            rfl
          · have := hib k' (den ρ y).i cap .sliceAcap (by omega) (by omega)
            simp only [Option.map_none, Option.map_some, Instr.sliceBounds, Sem.run_bind, Sem.run_pure, Result.andThen_ok, if_true, this]
            rfl
          · have := hib k (den ρ x).i (den ρ len).i.toNat .sliceB (by omega) (by omega)
            simp only [Option.map_none, Option.map_some, Instr.sliceBounds, Sem.run_bind, Sem.run_pure, Result.andThen_ok, Option.isSome_none, Bool.false_eq_true, if_false, this]
          · have h1 := hib k' (den ρ y).i cap .sliceAcap (by omega) (by omega)
            have h2 := hib k (den ρ x).i (den ρ y).i.toNat .sliceB (by omega) (by omega)
            simp only [Option.map_some, Instr.sliceBounds, Sem.run_bind, Sem.run_pure, Result.andThen_ok, Option.isSome_none, Bool.false_eq_true, if_false, if_true, h1, h2]
        simp only [hbd, Result.andThen_ok, hsz]
        rw [hres]
        show _ = Result.ok (C.den ρ β (.slr l (mkAdd off loT) (mkSub hiT loT) z)) w
        rw [slr_den, mkAdd_ok, mkSub_ok]
        congr 2
        · omega
        · omega
      · cases h
    · cases h
  · cases h

def rowPtr (l : Nat) (off n : Tm) : C :=
  match isLit off, isLit n with
  | some o, some n => .ptr l (o.toNat + n.toNat)
  | _, _ => .ptx l (mkAdd off n)
theorem rowPtr_den {ρ : Env} {β : Bn} {l : Nat} {off n : Tm} (h1 : 0 ≤ (den ρ off).i) (h2 : 0 ≤ (den ρ n).i) : (rowPtr l off n).den ρ β = .pointer (some ⟨β l, (den ρ off).i.toNat + (den ρ n).i.toNat, none⟩) := by
  unfold rowPtr
  split
  · rename_i a b ha hb
    rw [isLit_eq ha, isLit_eq hb]
    rfl
  · show Value.pointer (some ⟨β l, (den ρ (mkAdd off n)).i.toNat, none⟩) = _
    rw [mkAdd_ok, show ((den ρ off).i + (den ρ n).i).toNat = (den ρ off).i.toNat + (den ρ n).i.toNat from by omega]
def rowAt (P : Program) (c : Cx) (hp : List Bk) (t : TypeId) (l : Nat) (off len : Tm) (ix : SV) : PR :=
  match rowFind hp l, P.underlying t, ix with
  | some s, some (.slice e), .one (.c (.int k n)) =>
    match P.info? e with
    | some i => if Nat.beq i.size 1 then some (inRow c s off len ++ (need c (.le (.il 0) n) ++ (need c (.lt n len) ++ (need c (.le (.il 0) (mkAdd off n)) ++ need c (.lt (mkAdd off n) (mkLen c s))))), .one (.c (rowPtr l off n))) else none
    | none => none
  | _, _, _ => none
theorem rowAt_ok {ρ : Env} {β : Bn} {P : Program} {c : Cx} (hc : c.ok ρ) {hp : List Bk} {w : World} (hb : ∀ b ∈ hp, BkOk ρ β w b) {t : TypeId} {l : Nat} {off len an : Tm} {ix : SV} {m : List Tm} {r : SV}
    (h : rowAt P c hp t l off len ix = some (m, r)) (hm : Met ρ m) : (Instr.indexAt t (C.den ρ β (.slr l off len an)) (ix.den ρ β)).run P w = .ok (r.den ρ β) w := by
  unfold rowAt at h
  split at h
  · rename_i s e k n hf ht
    obtain ⟨ty, own, hB⟩ := rowFind_ok hf hb
    split at h
    · rename_i i hi
      split at h
      · rename_i q
        have q1 := Nat.eq_of_beq_eq_true q
        injection h with h
        injection h with e1 e2
        subst e1 e2
        obtain ⟨b1, b2, b3⟩ := inRow_ok hc hm.l
        have m1 := le_of (need_ok hc hm.r.l)
        have m2 := lt_of (need_ok hc hm.r.r.l)
        change (0 : Int) ≤ _ at m1
        have hcap := hB.len
        have hE : P.elem t = e := by simp [Program.elem, ht]
        show (Instr.indexAt t (C.den ρ β (.slr l off len an)) (.int k (den ρ n).i)).run P w = Result.ok ((rowPtr l off n).den ρ β) w
        rw [rowPtr_den b1 m1, slr_den]
        unfold slrZ
        rw [if_neg (by omega), if_neg (by omega), run_indexAt_slice w t _ _ _ k _ (by rw [hE]; exact ht), hE, if_pos ⟨m1, by omega⟩]
        simp only [sizeOf, typeInfo, Sem.run_bind, run_program, Result.andThen_ok, hi, Sem.run_pure, q1, Nat.mul_one, Addr.add_mid]
      · cases h
    · cases h
  · cases h

def rowStr (P : Program) (c : Cx) (hp : List Bk) (src dst : TypeId) (l : Nat) (off len : Tm) : PR :=
  match rowFind hp l, P.underlying src, P.underlying dst with
  | some s, some (.slice e), some .string =>
    match P.underlying e with
    | some (.int .u8) => sS (inRow c s off len) (mkCut c s off (mkAdd off len))
    | _ => none
  | _, _, _ => none
theorem extract_len (s : ByteArray) (o n : Nat) (h : o + n ≤ s.data.toList.length) : (s.extract o (o + n)).data.toList = (s.data.toList.drop o).take n := by
  simp only [ByteArray.data_extract, Array.toList_extract, List.extract_eq_take_drop]
  congr 1
  omega
theorem rowStr_ok {ρ : Env} {β : Bn} {P : Program} {c : Cx} (hc : c.ok ρ) {hp : List Bk} {w : World} (hb : ∀ b ∈ hp, BkOk ρ β w b) {src dst : TypeId} {l : Nat} {off len an : Tm} {m : List Tm} {r : SV}
    (h : rowStr P c hp src dst l off len = some (m, r)) (hm : Met ρ m) : (convert src dst (C.den ρ β (.slr l off len an))).run P w = .ok (r.den ρ β) w := by
  unfold rowStr at h
  split at h
  · rename_i s e hf hs hd
    obtain ⟨ty, own, hB⟩ := rowFind_ok hf hb
    split at h
    · rename_i he
      injection h with h
      injection h with e1 e2
      subst e1 e2
      obtain ⟨b1, b2, b3⟩ := inRow_ok hc hm
      have hcap := hB.len
      have hx := extract_len (den ρ s).s (den ρ off).i.toNat (den ρ len).i.toNat (by omega)
      have hfin : (den ρ (mkCut c s off (mkAdd off len))).s = ⟨(((den ρ s).s.data.toList.drop (den ρ off).i.toNat).take (den ρ len).i.toNat).toArray⟩ := by
        rw [mkCut_ok hc, mkAdd_ok, show ((den ρ off).i + (den ρ len).i).toNat = (den ρ off).i.toNat + (den ρ len).i.toNat from by omega]
        apply ByteArray.ext
        apply Array.ext'
        rw [hx]
      show _ = Result.ok (Value.string (den ρ (mkCut c s off (mkAdd off len))).s) w
      rw [hfin, slr_den]
      unfold slrZ
      generalize hbs : ((den ρ s).s.data.toList.drop (den ρ off).i.toNat).take (den ρ len).i.toNat = bs
      have hlen : bs.length = (den ρ len).i.toNat := by rw [← hbs]; simp; simp at b3; omega
      by_cases hz : β (l + 1) = 0
      · rw [if_pos hz, run_convert_bytes_nil w src e hs he 0 0 dst hd]
        have : bs = [] := List.eq_nil_of_length_eq_zero (by omega)
        rw [this]
        rfl
      · rw [if_neg hz, ← hlen]
        refine run_convert_bytes_back w src dst e _ _ bs hs he hd ?_
        intro j hj
        have hj' : (den ρ off).i.toNat + j < (den ρ s).s.data.toList.length := by omega
        rw [if_neg (by omega), Addr.add_mid, (hB.cell hj').1]
        congr 3
        subst hbs
        simp
    · cases h
  · cases h
def rowLen (P : Program) (c : Cx) (hp : List Bk) (t : TypeId) (l : Nat) (off len : Tm) : PR :=
  match rowFind hp l, P.underlying t with
  | some s, some (.slice _) => sI (inRow c s off len) .i64 len
  | _, _ => none
theorem rowLen_ok {ρ : Env} {β : Bn} {P : Program} {c : Cx} (hc : c.ok ρ) {hp : List Bk} {w : World} (hb : ∀ b ∈ hp, BkOk ρ β w b) {t ty : TypeId} {l : Nat} {off len an : Tm} {m : List Tm} {r : SV}
    (h : rowLen P c hp t l off len = some (m, r)) (hm : Met ρ m) : (Builtin.len_ #[t] ty #[C.den ρ β (.slr l off len an)]).run P w = .ok (r.den ρ β) w := by
  unfold rowLen at h
  split at h
  · rename_i s e hf ht
    obtain ⟨ty', own, hB⟩ := rowFind_ok hf hb
    injection h with h
    injection h with e1 e2
    subst e1 e2
    obtain ⟨b1, b2, b3⟩ := inRow_ok hc hm
    have hcap := hB.len
    rw [slr_den]
    unfold slrZ
    split
    · simp only [Builtin.len_, List.getElem?_toArray, List.getElem?_cons_zero, Sem.run_bind, run_underlying ht, Result.andThen_ok, Sem.run_pure]
      exact res_int (show (den ρ len).i = ((0 : Nat) : Int) by omega)
    · simp only [Builtin.len_, List.getElem?_toArray, List.getElem?_cons_zero, Sem.run_bind, run_underlying ht, Result.andThen_ok, Sem.run_pure]
      exact res_int (show (den ρ len).i = ((den ρ len).i.toNat : Int) by omega)
  · cases h

theorem cells8'_len (l : List UInt8) : (cells8' l).length = l.length := by simp [cells8']
theorem cells8'_app (a b : List UInt8) : cells8' (a ++ b) = cells8' a ++ cells8' b := by simp [cells8']
def cellBytes (c : Cx) : List C → Option Tm
  | [] => some (.sl [])
  | .int .u8 x :: l => if sure c (.le (.il 0) x) && sure c (.le x (.il 255)) then (cellBytes c l).map fun s => mkApp (match isLit x with | some n => .sl [UInt8.ofNat n.toNat] | none => .chr x) s else none
  | _ => none
theorem cellBytes_ok {ρ : Env} {β : Bn} {c : Cx} (hc : c.ok ρ) : ∀ {l : List C} {s : Tm}, cellBytes c l = some s → denL ρ β l = cells8' (den ρ s).s.data.toList
  | [], s, h => by injection h with h; subst h; rfl
  | x :: l, s, h => by
    unfold cellBytes at h
    split at h
    · injection h with h; subst h; rename_i e; cases e
    · rename_i y l' e
      injection e with e1 e2
      subst e1 e2
      split at h
      · rename_i q
        simp only [Bool.and_eq_true] at q
        have x0 := le_of (sure_ok hc q.1)
        have x1 := le_of (sure_ok hc q.2)
        change (0 : Int) ≤ _ at x0
        change _ ≤ (255 : Int) at x1
        cases hs : cellBytes c l with
        | none => rw [hs] at h; cases h
        | some r =>
          rw [hs] at h
          injection h with h
          subst h
          have ih := cellBytes_ok (β := β) hc hs
          have hx : (den ρ (match isLit y with | some n => .sl [UInt8.ofNat n.toNat] | none => .chr y)).s.data.toList = [UInt8.ofNat (den ρ y).i.toNat] := by
            split
            · rename_i n hn
              rw [isLit_eq hn]
              rfl
            · exact chr_data x0 x1
          rw [mkApp_ok]
          have e3 : ∀ a b : ByteArray, (a ++ b).data.toList = a.data.toList ++ b.data.toList := fun a b => by simp
          rw [e3, hx, cells8'_app, ← ih]
          show _ :: _ = _ :: _
          congr 1
          show Value.int .u8 _ = .int .u8 _
          congr 1
          rw [UInt8.toNat_ofNat']
          omega
      · cases h
    · cases h
/-- string(b), b a slice of known bytes. -/
def slcStr (P : Program) (c : Cx) (hp : List Bk) (src dst : TypeId) (l off : Nat) (len : Tm) : PR :=
  match find l hp, isLit len, P.underlying src, P.underlying dst with
  | some b, some n, some (.slice e), some .string =>
    match b.str, P.underlying e with
    | none, some (.int .u8) => if Nat.ble (off + n.toNat) b.cs.length && b.x.isNo then (cellBytes c ((b.cs.drop off).take n.toNat)).map fun s => ([], .one (.c (.str s))) else none
    | _, _ => none
  | _, _, _, _ => none
theorem slcStr_ok {ρ : Env} {β : Bn} {P : Program} {c : Cx} (hc : c.ok ρ) {hp : List Bk} {w : World} (hb : ∀ b ∈ hp, BkOk ρ β w b) {src dst : TypeId} {l off : Nat} {len cap : Tm} {m : List Tm} {r : SV}
    (h : slcStr P c hp src dst l off len = some (m, r)) : (convert src dst (C.den ρ β (.slc l off len cap))).run P w = .ok (r.den ρ β) w := by
  unfold slcStr at h
  split at h
  · rename_i b n e hf hlit hs hd
    split at h
    · rename_i hsb he
      split at h
      · rename_i z
        simp only [Bool.and_eq_true] at z
        have hno := Xt.isNo_eq z.2
        have z := Nat.le_of_ble_eq_true z.1
        cases hcb : cellBytes c ((b.cs.drop off).take n.toNat) with
        | none => rw [hcb] at h; cases h
        | some s =>
          rw [hcb] at h
          injection h with h
          injection h with e1 e2
          subst e1 e2
          have hcells := cellBytes_ok (β := β) hc hcb
          have hm := find_mem hf
          have hB := hb b hm.1
          unfold BkOk at hB
          rw [hsb, hno] at hB
          have hB : Blk w (β b.l) b.ty (denL ρ β b.cs) := hB
          rw [hm.2] at hB
          have hlen := congrArg List.length hcells
          rw [denL_len, cells8'_len, List.length_take, List.length_drop] at hlen
          have hcv : C.den ρ β (.slc l off len cap) = .slice (some ⟨β l, off, none⟩) (den ρ s).s.data.toList.length (den ρ cap).i.toNat := by
            rw [isLit_eq hlit]
            show Value.slice _ n.toNat _ = _
            congr 1
            omega
          rw [hcv]
          show _ = Result.ok (Value.string (den ρ s).s) w
          have hfin : (den ρ s).s = ⟨(den ρ s).s.data.toList.toArray⟩ := by
            apply ByteArray.ext
            simp
          rw [hfin]
          refine run_convert_bytes_back w src dst e _ _ (den ρ s).s.data.toList hs he hd ?_
          intro j hj
          rw [Addr.add_mid, hB.cell]
          have hg : (denL ρ β ((b.cs.drop off).take n.toNat))[j]? = (cells8' (den ρ s).s.data.toList)[j]? := by rw [hcells]
          rw [denL_take, denL_drop, List.getElem?_take, List.getElem?_drop, if_pos (by omega)] at hg
          rw [hg]
          unfold cells8'
          rw [List.getElem?_map, List.getElem?_eq_getElem hj]
          rfl
      · cases h
    · cases h
  · cases h
/-- What an operation that only reads memory gives. -/
def memS (P : Program) (c : Cx) (hp : List Bk) (ev : Operand → Option SV) : Op → PR
  | .load t x => match ev x with
    | some x => (loadS P c hp t x).map fun v => ([], .one v)
    | none => none
  | .slice t x lo hi mx => match ev x, optEv ev lo, optEv ev hi, mx with
    | some (.one (.c (.slr l off len an))), some lo, some hi, none => match optI lo, optI hi with
      | some lo, some hi => rowCut P c hp t l off len an lo hi
      | _, _ => none
    | _, _, _, _ => none
  | .indexAddr t x i => match ev x, ev i with
    | some (.one (.c (.slr l off len an))), some i => rowAt P c hp t l off len i
    | _, _ => none
  | .convert s d x => match ev x with
    | some (.one (.c (.slr l off len an))) => rowStr P c hp s d l off len
    | some (.one (.c (.slc l off len cap))) => slcStr P c hp s d l off len
    | _ => none
  | .call k => match k.callee, k.args.toList, k.argTypes.toList with
    | .builtin .len, [x], [t] => match ev x with
      | some (.one (.c (.slr l off len an))) => rowLen P c hp t l off len
      | _ => none
    | _, _, _ => none
  | _ => none
theorem memS_ok {ρ : Env} {β : Bn} {P : Program} {c : Cx} (hc : c.ok ρ) {hp : List Bk} {w : World} (hb : ∀ b ∈ hp, BkOk ρ β w b) {ev : Operand → Option SV} {a : Act} (hev : ∀ x v, ev x = some v → a.eval x = v.den ρ β) {o : Oper} {m : List Tm} {r : SV}
    (h : memS P c hp ev o.op = some (m, r)) (hm : Met ρ m) : (execOp a.eval o).run P w = .ok (.value (r.den ρ β)) w := by
  obtain ⟨dst, op, ty, pos, after, guard⟩ := o
  simp only [] at h
  cases op <;> simp only [memS] at h <;> try (cases h; done)
  case load t x =>
    split at h
    · rename_i x' hx
      cases hl : loadS P c hp t x' with
      | none => rw [hl] at h; cases h
      | some v =>
        rw [hl] at h
        injection h with h
        injection h with h1 h2
        subst h1 h2
        refine run_v ?_
        rw [hev _ _ hx]
        exact loadS_ok hc hl hb
    · cases h
  case slice t x lo hi mx =>
    split at h
    · rename_i l off len an lo' hi' h1 h2 h3
      split at h
      · rename_i lo'' hi'' h4 h5
        refine run_v ?_
        rw [hev _ _ h1, optEv_ok hev h2, optEv_ok hev h3, optI_ok h4, optI_ok h5]
        exact rowCut_ok hc hb h hm
      · cases h
    · cases h
  case indexAddr t x i =>
    split at h
    · rename_i l off len an i' h1 h2
      refine run_v ?_
      rw [hev _ _ h1, hev _ _ h2]
      exact rowAt_ok hc hb h hm
    · cases h
  case convert s d x =>
    split at h
    · rename_i l off len an h1
      refine run_v ?_
      rw [hev _ _ h1]
      exact rowStr_ok hc hb h hm
    · rename_i l off len cap h1
      refine run_v ?_
      rw [hev _ _ h1]
      exact slcStr_ok hc hb h
    · cases h
  case call k =>
    obtain ⟨callee, args, ats⟩ := k
    simp only [] at h
    split at h
    · rename_i x t hargs hats
      split at h
      · rename_i l off len an h1
        rw [execOp_builtin, builtin_len]
        have e1 : args = #[x] := by cases args; simp at hargs; rw [hargs]
        have e2 : ats = #[t] := by cases ats; simp at hats; rw [hats]
        subst e1 e2
        have e3 : a.eval x = C.den ρ β (.slr l off len an) := hev _ _ h1
        have := rowLen_ok (ty := ty) (an := an) hc hb h hm
        refine run_v ?_
        simpa [e3] using this
      · cases h
    · cases h
end Sy
end Go.Proofs.Ytnmfmjlpfhdgeaa
