/- Values, blocks and frames of a run with letters; which worlds they describe. -/
import Derived.Test.YtnmfmjlpfhdgeaaSyB
import Derived.Test.YtnmfmjlpfhdgeaaMem
import Derived.Test.YtnmfmjlpfhdgeaaLawLift
import Derived.MapKept
namespace Go.Proofs.Ytnmfmjlpfhdgeaa
namespace Sy
open Go Go.RowKit
set_option linter.unusedVariables false

/-- A value of one cell. -/
inductive C where
  | int (k : IntKind) (t : Tm) | bool (t : Tm) | str (t : Tm)
  | ptr (l off : Nat) | nptr
  | slc (l off : Nat) (len cap : Tm) | nslc
  | slr (l : Nat) (off len an : Tm) | ptx (l : Nat) (off : Tm)
  | fn (f : FuncId) (ls : List Nat) | nmap | map (l : Nat)
  | opq (i : Nat)
  | slt (l m : Nat) (off len an : Tm) | pta (l base m : Nat) (i : Tm) (f : Nat) | ptv (t : Tm) | slz (l m : Nat) (len : Tm) | vls (t : Tm)
  deriving Repr, Inhabited
inductive V1 where
  | c (x : C) | agg (l : List C)
  deriving Repr, Inhabited
inductive SV where
  | one (x : V1) | tup (l : List V1) | any (n : Nat)
  deriving Repr, Inhabited

abbrev Bn := Nat → Nat
def C.den (ρ : Env) (β : Bn) : C → Value
  | .int k t => .int k (Sy.den ρ t).i
  | .bool t => .bool (Sy.den ρ t).b
  | .str t => .string (Sy.den ρ t).s
  | .ptr l off => .pointer (some ⟨β l, off, none⟩)
  | .nptr => .pointer none
  | .slc l off len cap => .slice (some ⟨β l, off, none⟩) (Sy.den ρ len).i.toNat (Sy.den ρ cap).i.toNat
  | .nslc => .slice none 0 0
  | .ptx l off => .pointer (some ⟨β l, (Sy.den ρ off).i.toNat, none⟩)
  | .slr l off len an => if β (l + 1) = 0 then .slice none 0 0 else .slice (some ⟨β l, if β (l + 1) = (Sy.den ρ off).i.toNat then (Sy.den ρ an).i.toNat else (Sy.den ρ off).i.toNat, none⟩) (Sy.den ρ len).i.toNat (β (l + 1) - (Sy.den ρ off).i.toNat)
  | .fn f ls => .func (.func f) #[] (ls.map fun l => Value.pointer (some ⟨β l, 0, none⟩)).toArray
  | .nmap => .map none
  | .map l => .map (some (β l))
  | .opq i => ρ.v i
  | .slt l m off len an => if β (l + 1) = 0 then .slice none 0 0 else .slice (some ⟨β l, (if β (l + 1) = (Sy.den ρ off).i.toNat then (Sy.den ρ an).i.toNat else (Sy.den ρ off).i.toNat) * m, none⟩) (Sy.den ρ len).i.toNat (β (l + 1) - (Sy.den ρ off).i.toNat)
  | .pta l base m i f => .pointer (some ⟨β l, base + (Sy.den ρ i).i.toNat * m + f, none⟩)
  | .ptv t => .pointer (some ⟨(Sy.den ρ t).i.toNat, 0, none⟩)
  | .vls t => mkV .sls (Sy.den ρ t)
  | .slz l m len => if β l = 0 ∧ β (l + 1) = 0 then .slice none 0 0 else .slice (some ⟨β l, 0, none⟩) (Sy.den ρ len).i.toNat (β (l + 1))
def denL (ρ : Env) (β : Bn) (l : List C) : List Value := l.map (C.den ρ β)
def V1.den (ρ : Env) (β : Bn) : V1 → Value
  | .c x => x.den ρ β
  | .agg l => .agg (denL ρ β l).toArray
def SV.den (ρ : Env) (β : Bn) : SV → Value
  | .one x => x.den ρ β
  | .tup l => .tuple (l.map (V1.den ρ β)).toArray
  | .any n => ρ.u n
/-- The letters of values that may be anything hold one cell each. -/
def Env.good (ρ : Env) : Prop := ∀ i, (ρ.v i).oneCell' = true
theorem slV_one (v : Value) : (slV v).oneCell' = true := by cases v <;> rfl
theorem C.one {ρ : Env} (hρ : ρ.good) (β : Bn) (x : C) : (x.den ρ β).oneCell' = true := by
  cases x <;> first | rfl | exact hρ _ | exact slV_one _ | (simp only [C.den]; split <;> rfl)
theorem denL_one {ρ : Env} (hρ : ρ.good) (β : Bn) (l : List C) : ∀ v ∈ denL ρ β l, v.oneCell' = true := fun v hv => by
  obtain ⟨x, _, rfl⟩ := List.mem_map.1 hv
  exact x.one hρ β

/-- Does a letter stand in it? -/
def C.has (n : Nat) : C → Bool
  | .ptr l _ => Nat.beq l n
  | .slc l _ _ _ => Nat.beq l n
  | .ptx l _ => Nat.beq l n
  | .slr l _ _ _ => Nat.beq l n || Nat.beq (l + 1) n
  | .map l => Nat.beq l n
  | .fn _ ls => ls.any fun l => Nat.beq l n
  | .slt l _ _ _ _ => Nat.beq l n || Nat.beq (l + 1) n
  | .pta l _ _ _ _ => Nat.beq l n
  | .slz l _ _ => Nat.beq l n || Nat.beq (l + 1) n
  | _ => false
def hasL (n : Nat) (l : List C) : Bool := l.any (C.has n)
def V1.has (n : Nat) : V1 → Bool
  | .c x => x.has n
  | .agg l => hasL n l
def SV.has (n : Nat) : SV → Bool
  | .one x => x.has n
  | .tup l => l.any (V1.has n)
  | .any _ => false
def upd (β : Bn) (n v : Nat) : Bn := fun l => if l = n then v else β l
theorem upd_old {β : Bn} {n v l : Nat} (h : l ≠ n) : upd β n v l = β l := by unfold upd; rw [if_neg h]
theorem upd_new (β : Bn) (n v : Nat) : upd β n v n = v := by unfold upd; rw [if_pos rfl]
theorem beq_ne {a b : Nat} (h : Nat.beq a b = false) : a ≠ b := fun e => by rw [e, Nat.beq_refl] at h; cases h
theorem C.den_upd (ρ : Env) {β : Bn} {n v : Nat} {x : C} (hx : x.has n = false) : x.den ρ (upd β n v) = x.den ρ β := by
  cases x with
  | ptr l off => simp only [C.den]; rw [upd_old (beq_ne hx)]
  | slc l off a b => simp only [C.den]; rw [upd_old (beq_ne hx)]
  | ptx l off => simp only [C.den]; rw [upd_old (beq_ne hx)]
  | slr l off a an =>
    simp only [C.has, Bool.or_eq_false_iff] at hx
    simp only [C.den]
    rw [upd_old (beq_ne hx.1), upd_old (beq_ne hx.2)]
  | map l => simp only [C.den]; rw [upd_old (beq_ne hx)]
  | pta l _ _ _ _ => simp only [C.den]; rw [upd_old (beq_ne hx)]
  | slz l m a =>
    simp only [C.has, Bool.or_eq_false_iff] at hx
    simp only [C.den]
    rw [upd_old (beq_ne hx.1), upd_old (beq_ne hx.2)]
  | slt l m off a an =>
    simp only [C.has, Bool.or_eq_false_iff] at hx
    simp only [C.den]
    rw [upd_old (beq_ne hx.1), upd_old (beq_ne hx.2)]
  | fn f ls =>
    simp only [C.den]
    congr 2
    apply List.map_congr_left
    intro l hl
    have h := List.any_eq_false.1 hx l hl
    rw [upd_old (fun e => h (by rw [e, Nat.beq_refl]))]
  | _ => rfl
theorem denL_upd (ρ : Env) {β : Bn} {n v : Nat} {l : List C} (hl : hasL n l = false) : denL ρ (upd β n v) l = denL ρ β l := by
  apply List.map_congr_left
  intro x hx
  have h := List.any_eq_false.1 hl x hx
  exact C.den_upd ρ (by simpa using h)
theorem V1.den_upd (ρ : Env) {β : Bn} {n v : Nat} {x : V1} (hx : x.has n = false) : x.den ρ (upd β n v) = x.den ρ β := by
  cases x with
  | c x => exact C.den_upd ρ hx
  | agg l => simp only [V1.den]; rw [denL_upd ρ hx]
theorem SV.den_upd (ρ : Env) {β : Bn} {n v : Nat} {x : SV} (hx : x.has n = false) : x.den ρ (upd β n v) = x.den ρ β := by
  cases x with
  | one x => exact V1.den_upd ρ hx
  | tup l =>
    simp only [SV.den]
    congr 2
    apply List.map_congr_left
    intro x hm
    have h := List.any_eq_false.1 hx x hm
    exact V1.den_upd ρ (by simpa using h)
  | any n => rfl

/-- A table that lies in a block of fixed cells: so many cells of cs ahead of it, what its rows hold, how many rows it has. -/
structure Ins where
  pos : Nat
  lv : List Kd
  n : Nat
  t : Tm
  deriving Repr, Inhabited
/-- What else a block may be: a table that grows; cells with tables among them. -/
inductive Xt where
  | no | tab (lv : List Kd) (t : Tm) | arr (ins : List Ins) | mp (ks : List Kd) (ag : Bool) (v : Kd) (t : Tm) | own (k : Nat) (t : Tm) | al (t : Tm)
  deriving Repr, Inhabited
/-- A block known whole: its letter, its element type, its cells; may it be written? Or (str): a row of bytes, of which those of a string are known; its letter's next one stands for its capacity (0: the row is nil, there is no block). Or (x) a table: its letter's next one likewise. -/
structure Bk where
  l : Nat
  ty : TypeId
  cs : List C
  rw : Bool
  str : Option Tm
  x : Xt := .no
  deriving Repr, Inhabited
def Xt.isTab : Xt → Bool
  | .tab _ _ => true
  | _ => false
def Xt.isOwn : Xt → Bool
  | .own _ _ => true
  | _ => false
def Xt.isAl : Xt → Bool
  | .al _ => true
  | _ => false
def Xt.isNo : Xt → Bool
  | .no => true
  | _ => false
theorem Xt.isNo_eq {x : Xt} (h : x.isNo = true) : x = .no := by cases x <;> first | rfl | cases h
def kOK : Kd → Value → Prop
  | .int k, v => ∃ n, v = .int k n ∧ (Lit.int k n).wf = true
  | .bool, v => ∃ b, v = .bool b
  | .str, v => ∃ s : ByteArray, v = .string s ∧ s.size ≤ maxLen
  | .ptr, v => ∃ n, v = .pointer (some ⟨n, 0, none⟩)
  | .sls, v => ∃ a n c, v = .slice a n c
def kAll : List Kd → List Value → Prop
  | [], [] => True
  | k :: l, v :: vs => kOK k v ∧ kAll l vs
  | _, _ => False
/-- Block g has room for c rows, and begins with these rows. -/
structure RowT (w : World) (g c : Nat) (ty : TypeId) (lv : List Kd) (l : List (List Value)) : Prop where
  row : c ≠ 0 → ∃ cur : Array Value, w.heap[g]? = some (.cells cur ty (0, 0)) ∧ cur.size = c * lv.length ∧ c ≤ maxLen ∧ cur.toList.take (l.length * lv.length) = l.flatten
  len : l.length ≤ c
  ok : ∀ r ∈ l, kAll lv r
/-- A map's entry, told by a row: the key's cells, the value's one cell. -/
def entOf (ag : Bool) (n : Nat) (r : List Value) : Value × Value := (if ag then .agg (r.take n).toArray else r.headD (.bool false), r.getD n (.bool false))
/-- Block g is a map of these entries, in this order. -/
structure MapT (w : World) (g : Nat) (ks : List Kd) (ag : Bool) (v : Kd) (l : List (List Value)) : Prop where
  obj : ∃ es clock, w.heap[g]? = some (.map es clock) ∧ es.toList.map (fun e => (e.key, e.val)) = l.map (entOf ag ks.length) ∧ Go.MapKept.Stamped es clock
  ok : ∀ r ∈ l, kAll (ks ++ [v]) r
/-- Cells with tables among them. -/
def layV (ρ : Env) : List Value → List Ins → List Value
  | cs, [] => cs
  | cs, x :: l => cs.take x.pos ++ ((Sy.den ρ x.t).c.flatten ++ layV ρ (cs.drop x.pos) l)
def insOk (ρ : Env) (l : List Ins) : Prop := ∀ x ∈ l, (Sy.den ρ x.t).c.length = x.n ∧ ∀ r ∈ (Sy.den ρ x.t).c, kAll x.lv r
def cells8' (l : List UInt8) : List Value := l.map fun b => .int .u8 (b.toNat : Int)
/-- Block g has capacity c, and begins with these bytes (own: it may be appended to in place). -/
structure RowB (w : World) (g c : Nat) (ty : TypeId) (own : Bool) (l : List UInt8) : Prop where
  row : c ≠ 0 → ∃ (cur : Array Value) (fr : Nat × Nat), w.heap[g]? = some (.cells cur ty fr) ∧ (fr = (0, 0) ∨ own = false ∧ c ≤ fr.1) ∧ cur.size = c ∧ c ≤ maxLen ∧ cur.toList.take l.length = cells8' l
  len : l.length ≤ c
/-- The blocks of a thing of many blocks: its one cell tells the letter that stands for them, as bits. -/
def bitF (β : Bn) : List C → Nat → Prop
  | [.ptr fl _], g => (β fl).testBit g = true
  | _, _ => False
theorem bitF_agree {ρ : Env} {β β' : Bn} {cs : List C} (h : denL ρ β' cs = denL ρ β cs) : bitF β' cs = bitF β cs := by
  funext g
  unfold bitF
  split
  · rename_i fl o
    injection h with h _
    injection h with h
    injection h with h
    injection h with h _
    rw [h]
  · rfl
/-- The block is as it is told. -/
def BkOk (ρ : Env) (β : Bn) (w : World) (b : Bk) : Prop :=
  match b.str with
  | none => match b.x with
    | .no => Blk w (β b.l) b.ty (denL ρ β b.cs)
    | .tab lv t => RowT w (β b.l) (β (b.l + 1)) b.ty lv (Sy.den ρ t).c
    | .arr ins => Blk w (β b.l) b.ty (layV ρ (denL ρ β b.cs) ins) ∧ insOk ρ ins
    | .mp ks ag v t => MapT w (β b.l) ks ag v (Sy.den ρ t).c
    | .al t => β (b.l + 1) = 0 ∧ (denL ρ β b.cs = [.pointer (some ⟨(Sy.den ρ t).i.toNat, 0, none⟩)] ∨ denL ρ β b.cs = [mkV .sls (Sy.den ρ t)])
    | .own k t => (ρ.o k).P w (β b.l) (bitF β b.cs) (Sy.den ρ t).c
  | some s => RowB w (β b.l) (β (b.l + 1)) b.ty b.cs.isEmpty (Sy.den ρ s).s.data.toList
/-- May it be that there is no block? -/
def Bk.nilable (b : Bk) : Bool := b.str.isSome || (b.x.isTab || b.x.isAl)
/-- There is such a block. -/
def Bk.real (β : Bn) (b : Bk) : Prop := b.nilable = false ∨ β (b.l + 1) ≠ 0
theorem Bk.fixed {b : Bk} (h : b.str = none) (hx : b.x = .no) (β : Bn) : b.real β := .inl (by unfold Bk.nilable; rw [h, hx]; rfl)
section
variable {ρ : Env} {β β' : Bn} {w w' : World} {b : Bk}
/-- The blocks that it is made of: its own, or (own) those that its letter's next one tells as bits. -/
def Bk.own (b : Bk) : Bool := b.str.isNone && b.x.isOwn
def fp (β : Bn) (b : Bk) (g : Nat) : Prop := g = β b.l ∨ (b.own = true ∧ bitF β b.cs g)
/-- They have no block in common. -/
def apart (β : Bn) (x y : Bk) : Prop := ∀ g, fp β x g → ¬ fp β y g
theorem fp_root (β : Bn) (b : Bk) : fp β b (β b.l) := .inl rfl
theorem fp_one {β : Bn} {b : Bk} (h : b.own = false) {g : Nat} (hg : fp β b g) : g = β b.l := hg.resolve_right fun q => by rw [h] at q; cases q.1
theorem apart.ne {β : Bn} {x y : Bk} (h : apart β x y) : β x.l ≠ β y.l := fun e => h _ (fp_root β x) (e ▸ fp_root β y)
theorem apart.symm {β : Bn} {x y : Bk} (h : apart β x y) : apart β y x := fun g hy hx => h g hx hy
theorem apart.of {β : Bn} {x y : Bk} (hx : x.own = false) (hy : y.own = false) (h : β x.l ≠ β y.l) : apart β x y := fun g gx gy => h ((fp_one hx gx).symm.trans (fp_one hy gy))
theorem own_no {b : Bk} (h : b.x.isOwn = false) : b.own = false := by unfold Bk.own; rw [h]; simp
theorem fp_agree {ρ : Env} {β β' : Bn} {b : Bk} (h1 : β' b.l = β b.l) (h3 : denL ρ β' b.cs = denL ρ β b.cs) (g : Nat) : fp β' b g ↔ fp β b g := by
  unfold fp
  rw [h1, bitF_agree h3]
theorem fp_like {β : Bn} {x y : Bk} (h1 : x.l = y.l) (h2 : x.own = y.own) (g : Nat) (h3 : bitF β x.cs = bitF β y.cs := by rfl) : fp β x g ↔ fp β y g := by unfold fp; rw [h1, h2, h3]
theorem fp_in {β : Bn} {x y : Bk} (h1 : x.l = y.l) (h2 : x.own = true → y.own = true ∧ x.cs = y.cs) (g : Nat) (h : fp β x g) : fp β y g := by
  unfold fp at h ⊢
  rw [← h1]
  exact h.imp id fun q => ⟨(h2 q.1).1, by rw [← (h2 q.1).2]; exact q.2⟩
theorem apart.like {β : Bn} {x y x' y' : Bk} (h : apart β x' y') (h1 : x.l = x'.l) (h2 : x.own = x'.own) (h3 : y.l = y'.l) (h4 : y.own = y'.own) (h5 : bitF β x.cs = bitF β x'.cs := by rfl) (h6 : bitF β y.cs = bitF β y'.cs := by rfl) : apart β x y := fun g gx gy => h g ((fp_like h1 h2 g h5).1 gx) ((fp_like h3 h4 g h6).1 gy)
theorem apart.agree {ρ : Env} {β β' : Bn} {x y : Bk} (h : apart β x y) (h1 : β' x.l = β x.l) (h2 : denL ρ β' x.cs = denL ρ β x.cs) (h3 : β' y.l = β y.l) (h4 : denL ρ β' y.cs = denL ρ β y.cs) : apart β' x y :=
  fun g hx hy => h g ((fp_agree h1 h2 g).1 hx) ((fp_agree h3 h4 g).1 hy)
theorem own_real {β : Bn} {b : Bk} (ho : b.own = true) : b.real β := by
  unfold Bk.own at ho
  rw [Bool.and_eq_true] at ho
  refine .inl ?_
  unfold Bk.nilable
  rw [Option.isNone_iff_eq_none.1 ho.1]
  have h2 := ho.2
  cases hx : b.x <;> rw [hx] at h2 <;> first | rfl | exact Bool.noConfusion (show false = true from h2)
theorem BkOk.fplt (h : BkOk ρ β w b) (hr : b.real β) {g : Nat} (hg : fp β b g) : g < w.heap.size := by
  have up : ∀ {i : Nat} {o : Obj}, w.heap[i]? = some o → i < w.heap.size := fun {i o} ho => by
    rcases Nat.lt_or_ge i w.heap.size with hlt | hge
    · exact hlt
    · rw [Array.getElem?_eq_none hge] at ho; cases ho
  unfold BkOk at h
  cases hs : b.str with
  | none =>
    rw [hs] at h
    cases hx : b.x with
    | no => rw [hx] at h; rw [fp_one (own_no (by rw [hx]; rfl)) hg]; exact up h
    | tab lv t =>
      rw [hx] at h
      obtain ⟨cur, hc, _⟩ := h.row (hr.resolve_left (by unfold Bk.nilable; rw [hs, hx]; simp [Xt.isTab]))
      rw [fp_one (own_no (by rw [hx]; rfl)) hg]
      exact up hc
    | arr ins => rw [hx] at h; rw [fp_one (own_no (by rw [hx]; rfl)) hg]; exact up h.1
    | mp ks ag v t =>
      rw [hx] at h
      obtain ⟨es, clock, ho, _⟩ := h.obj
      rw [fp_one (own_no (by rw [hx]; rfl)) hg]
      exact up ho
    | own k t =>
      rw [hx] at h
      rcases hg with rfl | ⟨_, hg⟩
      · exact (ρ.o k).lt h _ ((ρ.o k).root h)
      · exact (ρ.o k).lt h _ hg
    | al t =>
      rw [hx] at h
      exact absurd h.1 (hr.resolve_left (by unfold Bk.nilable; rw [hs, hx]; simp [Xt.isAl]))
  | some s =>
    rw [hs] at h
    obtain ⟨cur, fr, hc, _⟩ := h.row (hr.resolve_left (by unfold Bk.nilable; rw [hs]; simp))
    rw [fp_one (by unfold Bk.own; rw [hs]; rfl) hg]
    exact up hc
theorem BkOk.lt (h : BkOk ρ β w b) (hr : b.real β) : β b.l < w.heap.size := h.fplt hr (fp_root β b)
theorem BkOk.heap (h : BkOk ρ β w b) (hr : b.real β) : ∃ o, w.heap[β b.l]? = some o := by
  have := h.lt hr
  exact ⟨_, Array.getElem?_eq_getElem this⟩
theorem BkOk.keep (h : BkOk ρ β w b) (hk : b.real β → ∀ g, fp β b g → g < w.heap.size → w'.heap[g]? = w.heap[g]?) : BkOk ρ β w' b := by
  have hl := h
  unfold BkOk at h ⊢
  cases hs : b.str with
  | none =>
    rw [hs] at h
    cases hx : b.x with
    | no => rw [hx] at h; have hr := Bk.fixed hs hx β; exact (hk hr _ (fp_root β b) (hl.lt hr)).trans h
    | tab lv t =>
      rw [hx] at h
      refine ⟨fun hc => ?_, h.len, h.ok⟩
      obtain ⟨cur, h1, h2⟩ := h.row hc
      exact ⟨cur, (hk (.inr hc) _ (fp_root β b) (hl.lt (.inr hc))).trans h1, h2⟩
    | arr ins =>
      rw [hx] at h
      have hr : b.real β := .inl (by unfold Bk.nilable; rw [hs, hx]; rfl)
      exact ⟨(hk hr _ (fp_root β b) (hl.lt hr)).trans h.1, h.2⟩
    | mp ks ag v t =>
      rw [hx] at h
      obtain ⟨es, clock, ho, he⟩ := h.obj
      have hr : b.real β := .inl (by unfold Bk.nilable; rw [hs, hx]; rfl)
      exact ⟨⟨es, clock, (hk hr _ (fp_root β b) (hl.lt hr)).trans ho, he⟩, h.ok⟩
    | own k t =>
      rw [hx] at h
      have hr : b.real β := .inl (by unfold Bk.nilable; rw [hs, hx]; rfl)
      exact (ρ.o k).keep h fun i hi => hk hr i (.inr ⟨by unfold Bk.own; rw [hs, hx]; rfl, hi⟩) ((ρ.o k).lt h i hi)
    | al t => rw [hx] at h; exact h
  | some s =>
    rw [hs] at h
    refine ⟨fun hc => ?_, h.len⟩
    obtain ⟨cur, fr, h1, h2⟩ := h.row hc
    exact ⟨cur, fr, (hk (.inr hc) _ (fp_root β b) (hl.lt (.inr hc))).trans h1, h2⟩
theorem BkOk.below (h : BkOk ρ β w b) (hb : Below w.heap.size w w') : BkOk ρ β w' b := h.keep fun hr g _ hg => hb.block _ hg
theorem BkOk.alloc (h : BkOk ρ β w b) (o : Obj) : BkOk ρ β (w.alloc o) b := h.keep fun hr g _ hg => Below.heap_alloc w o _ hg
theorem BkOk.drew (h : BkOk ρ β w b) : BkOk ρ β w.drew b := h.keep fun _ _ _ _ => rfl
theorem BkOk.agree (h : BkOk ρ β w b) (h1 : β' b.l = β b.l) (h2 : b.nilable = true → β' (b.l + 1) = β (b.l + 1)) (h3 : denL ρ β' b.cs = denL ρ β b.cs) : BkOk ρ β' w b := by
  unfold BkOk at h ⊢
  cases hs : b.str with
  | none =>
    rw [hs] at h
    cases hx : b.x with
    | no => rw [hx] at h; simp only [] at h ⊢; rw [h1, h3]; exact h
    | tab lv t => rw [hx] at h; simp only [] at h ⊢; rw [h1, h2 (by unfold Bk.nilable; rw [hs, hx]; rfl)]; exact h
    | arr ins => rw [hx] at h; simp only [] at h ⊢; rw [h1, h3]; exact h
    | mp ks ag v t => rw [hx] at h; simp only [] at h ⊢; rw [h1]; exact h
    | own k t => rw [hx] at h; simp only [] at h ⊢; rw [h1, bitF_agree h3]; exact h
    | al t => rw [hx] at h; simp only [] at h ⊢; rw [h2 (by unfold Bk.nilable; rw [hs, hx]; rfl), h3]; exact h
  | some s => rw [hs] at h; simp only [] at h ⊢; rw [h1, h2 (by unfold Bk.nilable; rw [hs]; rfl)]; exact h
end
structure St where
  tm : List SV
  hp : List Bk
  cx : Cx
  nx : Nat
  deriving Repr, Inhabited

/-- The frame and the world that are described: S says which blocks of the world w0, in which it began, may be written; the letters below n0 stand for what they stood for. -/
structure Md (ρ : Env) (S : Nat → Prop) (w0 : World) (β0 : Bn) (n0 : Nat) (s : St) (β : Bn) (a : Act) (w : World) : Prop where
  act : a = ⟨(s.tm.map (SV.den ρ β)).toArray, []⟩
  hp : ∀ b ∈ s.hp, BkOk ρ β w b
  ne : ∀ x ∈ s.hp, ∀ y ∈ s.hp, x.l ≠ y.l → x.real β → y.real β → apart β x y
  may : ∀ b ∈ s.hp, b.rw = true → b.real β → ∀ g, fp β b g → S g ∨ w0.heap.size ≤ g
  cx : s.cx.ok ρ
  only : Only S w0 w
  old : ∀ l, l < n0 → β l = β0 l

section
variable {ρ : Env} {S : Nat → Prop} {w0 w : World} {β0 : Bn} {n0 : Nat} {s : St} {β : Bn} {a : Act}
theorem Md.neq (h : Md ρ S w0 β0 n0 s β a w) : ∀ x ∈ s.hp, ∀ y ∈ s.hp, x.l ≠ y.l → x.real β → y.real β → β x.l ≠ β y.l := fun x hx y hy hne h1 h2 => (h.ne x hx y hy hne h1 h2).ne
theorem Md.may0 (h : Md ρ S w0 β0 n0 s β a w) : ∀ b ∈ s.hp, b.rw = true → b.real β → S (β b.l) ∨ w0.heap.size ≤ β b.l := fun b hb hw hr => h.may b hb hw hr _ (fp_root β b)
end

/-! Constants and operands. -/
def ofC : Value → Option C
  | .int k n => some (.int k (.il n))
  | .bool b => some (.bool (.bl b))
  | .string s => some (.str (.sl s.data.toList))
  | .pointer none => some .nptr
  | .slice none 0 0 => some .nslc
  | .map none => some .nmap
  | .func (.func f) first captured => if first.size = 0 ∧ captured.size = 0 then some (.fn f []) else none
  | _ => none
theorem ofC_ok {ρ : Env} {β : Bn} {v : Value} {x : C} (h : ofC v = some x) : x.den ρ β = v := by
  unfold ofC at h
  split at h <;> first
    | (injection h with h; subst h; exact rfl)
    | skip
  · split at h
    · rename_i f first captured q
      injection h with h
      subst h
      have e1 : first = #[] := Array.eq_empty_of_size_eq_zero q.1
      have e2 : captured = #[] := Array.eq_empty_of_size_eq_zero q.2
      subst e1 e2
      rfl
    · cases h
  · cases h
def ofCs : List Value → Option (List C)
  | [] => some []
  | v :: l => match ofC v, ofCs l with
    | some x, some xs => some (x :: xs)
    | _, _ => none
theorem ofCs_ok {ρ : Env} {β : Bn} : ∀ {l : List Value} {xs : List C}, ofCs l = some xs → denL ρ β xs = l
  | [], xs, h => by injection h with h; subst h; exact rfl
  | v :: l, xs, h => by
    simp only [ofCs] at h
    split at h
    · rename_i x ys h1 h2
      injection h with h
      subst h
      have a := ofC_ok (ρ := ρ) (β := β) h1
      have b := ofCs_ok (ρ := ρ) (β := β) h2
      simp only [denL, List.map_cons] at b ⊢
      rw [a, b]
    · cases h
def ofV (v : Value) : Option SV :=
  match ofC v with
  | some x => some (.one (.c x))
  | none =>
    match v with
    | .agg cs => (ofCs cs.toList).map fun l => .one (.agg l)
    | .tuple vs => if vs.size = 0 then some (.tup []) else none
    | _ => none
theorem ofV_ok {ρ : Env} {β : Bn} {v : Value} {x : SV} (h : ofV v = some x) : x.den ρ β = v := by
  unfold ofV at h
  split at h
  · rename_i y q
    injection h with h
    subst h
    exact ofC_ok q
  · split at h
    · rename_i cs _
      cases hq : ofCs cs.toList with
      | none => rw [hq] at h; cases h
      | some l =>
        rw [hq] at h
        injection h with h
        subst h
        show Value.agg (denL ρ β l).toArray = _
        rw [ofCs_ok (ρ := ρ) (β := β) hq]
    · split at h
      · rename_i vs _ q
        injection h with h
        subst h
        rw [Array.eq_empty_of_size_eq_zero q]
        rfl
      · cases h
    · cases h
def opd (tm : List SV) : Operand → Option SV
  | .tmp t => tm[t]?
  | .const v => ofV v
  | .func f => some (.one (.c (.fn f [])))
  | .global _ => none
def undS : SV := .tup []
theorem undS_den (ρ : Env) (β : Bn) : undS.den ρ β = undef := rfl

section
variable {ρ : Env} {S : Nat → Prop} {w0 w : World} {β0 : Bn} {n0 : Nat} {s : St} {β : Bn} {a : Act}
theorem Md.opd (h : Md ρ S w0 β0 n0 s β a w) {x : Operand} {v : SV} (hx : opd s.tm x = some v) : a.eval x = v.den ρ β := by
  cases x with
  | tmp t =>
    change s.tm[t]? = some v at hx
    rw [h.act]
    show ((s.tm.map (SV.den ρ β)).toArray).getD t undef = _
    simp [hx]
  | const c => exact (ofV_ok (ρ := ρ) (β := β) (show ofV c = some v from hx)).symm
  | global g => cases hx
  | func f =>
    change some _ = some v at hx
    injection hx with hx
    subst hx
    rfl

def putS (tm : List SV) (d : Option Tmp) (v : SV) : List SV :=
  match d with
  | some d => tm.set d v
  | none => tm
theorem act_put (tm : List SV) (d : Option Tmp) (v : SV) : (⟨(tm.map (SV.den ρ β)).toArray, []⟩ : Act).put d (v.den ρ β) = ⟨((putS tm d v).map (SV.den ρ β)).toArray, []⟩ := by
  cases d with
  | none => rfl
  | some d => simp [Act.put, putS, List.map_set]
/-- A value put into a slot. -/
def St.put (s : St) (d : Option Tmp) (v : SV) : St := { s with tm := putS s.tm d v }
theorem Md.put (h : Md ρ S w0 β0 n0 s β a w) (d : Option Tmp) (v : SV) : Md ρ S w0 β0 n0 (s.put d v) β (a.put d (v.den ρ β)) w :=
  ⟨by rw [h.act]; exact act_put _ _ _, h.hp, h.ne, h.may, h.cx, h.only, h.old⟩
def St.learn (s : St) (t : Tm) : St := { s with cx := s.cx.learn t }
theorem Md.learn (h : Md ρ S w0 β0 n0 s β a w) {t : Tm} (ht : (Sy.den ρ t).b = true) : Md ρ S w0 β0 n0 (s.learn t) β a w :=
  ⟨h.act, h.hp, h.ne, h.may, Cx.learn_ok h.cx ht, h.only, h.old⟩

/-- The block of a letter. -/
def find (l : Nat) : List Bk → Option Bk
  | [] => none
  | b :: bs => if Nat.beq b.l l then some b else find l bs
theorem find_mem {l : Nat} : ∀ {hp : List Bk} {b : Bk}, find l hp = some b → b ∈ hp ∧ b.l = l
  | [], b, h => by cases h
  | x :: hp, b, h => by
    simp only [find] at h
    split at h
    · rename_i q
      injection h with h
      subst h
      exact ⟨List.mem_cons_self .., Nat.eq_of_beq_eq_true q⟩
    · have := find_mem h
      exact ⟨List.mem_cons_of_mem _ this.1, this.2⟩
theorem Md.find (h : Md ρ S w0 β0 n0 s β a w) {l : Nat} {b : Bk} (hf : find l s.hp = some b) : BkOk ρ β w b ∧ b.l = l ∧ b ∈ s.hp := by
  have := find_mem hf
  exact ⟨h.hp b this.1, this.2, this.1⟩
end
end Sy
end Go.Proofs.Ytnmfmjlpfhdgeaa
