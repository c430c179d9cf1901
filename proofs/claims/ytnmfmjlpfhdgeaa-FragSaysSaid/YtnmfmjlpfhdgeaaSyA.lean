/- Terms for a run with letters in the place of numbers: what they denote, and between which numbers they lie. -/
import Derived.IntWalk
import Derived.OwnWalk
import Derived.Deep.Draws
namespace Go.Proofs.Ytnmfmjlpfhdgeaa
namespace Sy
open Go
set_option linter.unusedVariables false

structure Dn where
  i : Int
  b : Bool
  s : ByteArray
  c : List (List Value)

/-- What a cell of a table holds. -/
inductive Kd where
  | int (k : IntKind) | bool | str | ptr | sls
  deriving Repr, Inhabited
/-- What is done with tables (lists of rows of cells). -/
inductive TO where
  | nil | app | cut | len | set | get (k : Kd) (f : Nat) | row | cons (k : Kd) | eq | clr | mix (n : Nat) | mput (n : Nat) | mdel (n : Nat) | str
  deriving Repr, Inhabited

inductive Tm where
  | iv (n : Nat) | il (n : Int)
  | add (x y : Tm) | sub (x y : Tm) | mul (x y : Tm) | dv (x y : Tm) | md (x y : Tm) | quo (x y : Tm) | rem (x y : Tm) | pw (x : Tm)
  | wrap (k : IntKind) (x : Tm)
  | bop (o : BinOp) (k : IntKind) (x y : Tm)
  | len (s : Tm) | byte (s i : Tm)
  | ap (f : Nat) (x y z : Tm)
  | bv (n : Nat) | bl (b : Bool) | lt (x y : Tm) | le (x y : Tm) | eq (x y : Tm) | not (x : Tm) | and (x y : Tm) | or (x y : Tm) | seq (s t : Tm) | bq (x y : Tm)
  | ite (c x y : Tm)
  | sv (n : Nat) | sl (l : List UInt8) | cut (s lo hi : Tm) | app (s t : Tm) | chr (x : Tm)
  | cv (n : Nat) | tb (o : TO) (x y z : Tm)
  deriving Repr, Inhabited

/-- A thing of many blocks: which worlds hold it under this root, in these blocks, with this content. -/
structure Thing where
  P : World → Nat → (Nat → Prop) → List (List Value) → Prop
  keep : ∀ {w w' : World} {g : Nat} {F : Nat → Prop} {c : List (List Value)}, P w g F c → (∀ i, F i → w'.heap[i]? = w.heap[i]?) → P w' g F c
  lt : ∀ {w : World} {g : Nat} {F : Nat → Prop} {c : List (List Value)}, P w g F c → ∀ i, F i → i < w.heap.size
  root : ∀ {w : World} {g : Nat} {F : Nat → Prop} {c : List (List Value)}, P w g F c → F g
def Thing.none : Thing := ⟨fun _ _ _ _ => False, fun h => h.elim, fun h => h.elim, fun h => h.elim⟩
structure Env where
  i : Nat → Int
  b : Nat → Bool
  s : Nat → ByteArray
  f : Nat → Dn → Dn → Dn → Dn
  v : Nat → Value
  u : Nat → Value
  c : Nat → List (List Value)
  o : Nat → Thing := fun _ => Thing.none

def none8 : ByteArray := ⟨#[]⟩
def dI (n : Int) : Dn := ⟨n, false, none8, []⟩
def dB (b : Bool) : Dn := ⟨0, b, none8, []⟩
def dS (s : ByteArray) : Dn := ⟨0, false, s, []⟩
def dC (c : List (List Value)) : Dn := ⟨0, false, none8, c⟩
/-- A slice (anything else: the nil one). -/
def slV : Value → Value
  | .slice a n c => .slice a n c
  | _ => .slice none 0 0
/-- What a cell says, taken as of that kind. -/
def getV : Kd → Value → Dn
  | .int k, .int _ n => dI (k.wrap n)
  | .bool, .bool b => dB b
  | .str, .string s => dS (if s.size ≤ 9223372036854775807 then s else none8)
  | .ptr, .pointer (some a) => dI a.block
  | .sls, v => dC [[slV v]]
  | _, _ => dI 0
def mkV : Kd → Dn → Value
  | .int k, x => .int k x.i
  | .bool, x => .bool x.b
  | .str, x => .string x.s
  | .ptr, x => .pointer (some ⟨x.i.toNat, 0, none⟩)
  | .sls, x => slV ((x.c.headD []).headD (.bool false))
/-- The same: of cells of flat data. -/
def sqI : Int → Int → Bool
  | .ofNat a, .ofNat b => Nat.beq a b
  | .negSucc a, .negSucc b => Nat.beq a b
  | _, _ => false
def kN : IntKind → Nat
  | .i8 => 0 | .i16 => 1 | .i32 => 2 | .i64 => 3 | .u8 => 4 | .u16 => 5 | .u32 => 6 | .u64 => 7
def sqV : Value → Value → Bool
  | .int k m, .int l n => Nat.beq (kN k) (kN l) && sqI m n
  | .bool a, .bool b => a == b
  | .string s, .string t => s.data.toList == t.data.toList
  | .pointer (some a), .pointer (some b) => Nat.beq a.block b.block
  | .slice a n c, .slice b m d => decide (a = b) && (Nat.beq n m && Nat.beq c d)
  | _, _ => true
def sqR : List Value → List Value → Bool
  | [], [] => true
  | a :: x, b :: y => sqV a b && sqR x y
  | _, _ => false
def sqT : List (List Value) → List (List Value) → Bool
  | [], [] => true
  | a :: x, b :: y => sqR a b && sqT x y
  | _, _ => false
/-- The zero of a cell's kind. -/
def zeroV : Value → Value
  | .int k _ => .int k 0
  | .bool _ => .bool false
  | .string _ => .string none8
  | v => v
def zeroR (r : List Value) : List Value := r.map zeroV
/-- The first row whose first n cells are these. -/
def fM (n : Nat) (k : List Value) : List (List Value) → Option Nat
  | [] => none
  | r :: l => if sqR (r.take n) k then some 0 else (fM n k l).map (· + 1)
def mPut (n : Nat) (r : List Value) (l : List (List Value)) : List (List Value) := match fM n (r.take n) l with
  | some i => l.set i r
  | none => l ++ [r]
def mDel (n : Nat) (k : List Value) (l : List (List Value)) : List (List Value) := match fM n k l with
  | some i => l.eraseIdx i
  | none => l
def mIx (n : Nat) (k : List Value) (l : List (List Value)) : Int := match fM n k l with
  | some i => (i : Int)
  | none => -1
/-- The bytes of rows of one byte each. -/
def strT (l : List (List Value)) : ByteArray := ⟨(l.map fun r => match r with
  | [.int _ n] => UInt8.ofNat n.toNat
  | _ => 0).toArray⟩
def tbF : TO → Dn → Dn → Dn → Dn
  | .str, x, _, _ => dS (strT x.c)
  | .mix n, x, y, _ => dI (mIx n (y.c.headD []) x.c)
  | .mput n, x, y, _ => dC (mPut n (y.c.headD []) x.c)
  | .mdel n, x, y, _ => dC (mDel n (y.c.headD []) x.c)
  | .clr, x, y, _ => dC (x.c.take y.i.toNat ++ (x.c.drop y.i.toNat).map zeroR)
  | .nil, _, _, _ => dC []
  | .app, x, y, _ => dC (x.c ++ y.c)
  | .cut, x, y, z => dC ((x.c.drop y.i.toNat).take (z.i.toNat - y.i.toNat))
  | .len, x, _, _ => dI (x.c.length : Int)
  | .set, x, y, z => dC (x.c.set y.i.toNat (z.c.headD []))
  | .get k f, x, y, _ => getV k ((x.c.getD y.i.toNat []).getD f (.bool false))
  | .row, _, _, _ => dC [[]]
  | .cons k, x, y, _ => dC [mkV k x :: y.c.headD []]
  | .eq, x, y, _ => dB (sqT x.c y.c)

/-- The byte at a place (0: there is none). -/
def byteOf (s : ByteArray) (i : Int) : Int := ((s.data.toList.getD i.toNat 0).toNat : Int)
def chrOf (n : Int) : ByteArray := ⟨#[UInt8.ofNat (n % 256).toNat]⟩

def den (ρ : Env) : Tm → Dn
  | .iv n => dI (ρ.i n)
  | .il n => dI n
  | .add x y => dI ((den ρ x).i + (den ρ y).i)
  | .sub x y => dI ((den ρ x).i - (den ρ y).i)
  | .mul x y => dI ((den ρ x).i * (den ρ y).i)
  | .dv x y => dI ((den ρ x).i / (den ρ y).i)
  | .md x y => dI ((den ρ x).i % (den ρ y).i)
  | .quo x y => dI ((den ρ x).i.tdiv (den ρ y).i)
  | .rem x y => dI ((den ρ x).i.tmod (den ρ y).i)
  | .pw x => dI (2 ^ (den ρ x).i.toNat)
  | .wrap k x => dI (k.wrap (den ρ x).i)
  | .bop o k x y => dI (bits o k (den ρ x).i (den ρ y).i)
  | .len s => dI ((den ρ s).s.size : Int)
  | .byte s i => dI (byteOf (den ρ s).s (den ρ i).i)
  | .ap f x y z => ρ.f f (den ρ x) (den ρ y) (den ρ z)
  | .bv n => dB (ρ.b n)
  | .bl b => dB b
  | .lt x y => dB (decide ((den ρ x).i < (den ρ y).i))
  | .le x y => dB (decide ((den ρ x).i ≤ (den ρ y).i))
  | .eq x y => dB ((den ρ x).i == (den ρ y).i)
  | .not x => dB (!(den ρ x).b)
  | .and x y => dB ((den ρ x).b && (den ρ y).b)
  | .or x y => dB ((den ρ x).b || (den ρ y).b)
  | .seq s t => dB ((den ρ s).s.toList == (den ρ t).s.toList)
  | .bq x y => dB ((den ρ x).b == (den ρ y).b)
  | .ite c x y => if (den ρ c).b then den ρ x else den ρ y
  | .sv n => dS (ρ.s n)
  | .sl l => dS ⟨l.toArray⟩
  | .cut s lo hi => dS ((den ρ s).s.extract (den ρ lo).i.toNat (den ρ hi).i.toNat)
  | .app s t => dS ((den ρ s).s ++ (den ρ t).s)
  | .chr x => dS (chrOf (den ρ x).i)
  | .cv n => dC (ρ.c n)
  | .tb o x y z => tbF o (den ρ x) (den ρ y) (den ρ z)

/-! Equal terms. -/
def kNo : IntKind → Nat
  | .i8 => 0 | .i16 => 1 | .i32 => 2 | .i64 => 3 | .u8 => 4 | .u16 => 5 | .u32 => 6 | .u64 => 7
theorem kNo_inj {a b : IntKind} (h : kNo a = kNo b) : a = b := by cases a <;> cases b <;> simp_all [kNo]
def oNo : BinOp → Nat
  | .add => 0 | .sub => 1 | .mul => 2 | .quo => 3 | .rem => 4 | .and => 5 | .or => 6 | .xor => 7 | .shl => 8 | .shr => 9 | .andNot => 10
  | .eql => 11 | .neq => 12 | .lss => 13 | .leq => 14 | .gtr => 15 | .geq => 16
theorem oNo_inj {a b : BinOp} (h : oNo a = oNo b) : a = b := by cases a <;> cases b <;> simp_all [oNo]
def sameI : Int → Int → Bool
  | .ofNat a, .ofNat b => Nat.beq a b
  | .negSucc a, .negSucc b => Nat.beq a b
  | _, _ => false
theorem sameI_eq {a b : Int} (h : sameI a b = true) : a = b := by
  cases a <;> cases b <;> simp_all [sameI]
def sameL : List UInt8 → List UInt8 → Bool
  | [], [] => true
  | a :: x, b :: y => Nat.beq a.toNat b.toNat && sameL x y
  | _, _ => false
theorem sameL_eq : ∀ {a b : List UInt8}, sameL a b = true → a = b
  | [], [], _ => rfl
  | a :: x, b :: y, h => by
    rw [sameL, Bool.and_eq_true] at h
    have h1 := UInt8.toNat_inj.1 (Nat.eq_of_beq_eq_true h.1)
    rw [sameL_eq h.2, h1]
  | [], _ :: _, h => by simp [sameL] at h
  | _ :: _, [], h => by simp [sameL] at h

def sameK : Kd → Kd → Bool
  | .int k, .int l => Nat.beq (kNo k) (kNo l)
  | .bool, .bool => true
  | .str, .str => true
  | .ptr, .ptr => true
  | .sls, .sls => true
  | _, _ => false
theorem sameK_eq {a b : Kd} (h : sameK a b = true) : a = b := by
  cases a <;> cases b <;> simp only [sameK] at h <;> first
    | rfl
    | (cases h; done)
    | rw [kNo_inj (Nat.eq_of_beq_eq_true h)]
def sameO : TO → TO → Bool
  | .nil, .nil => true
  | .app, .app => true
  | .cut, .cut => true
  | .len, .len => true
  | .set, .set => true
  | .get k f, .get l g => sameK k l && Nat.beq f g
  | .row, .row => true
  | .cons k, .cons l => sameK k l
  | .eq, .eq => true
  | .clr, .clr => true
  | .str, .str => true
  | .mix n, .mix m => Nat.beq n m
  | .mput n, .mput m => Nat.beq n m
  | .mdel n, .mdel m => Nat.beq n m
  | _, _ => false
theorem sameO_eq {a b : TO} (h : sameO a b = true) : a = b := by
  cases a <;> cases b <;> simp only [sameO, Bool.and_eq_true] at h <;> first
    | rfl
    | (cases h; done)
    | rw [sameK_eq h.1, Nat.eq_of_beq_eq_true h.2]
    | rw [sameK_eq h]
    | rw [Nat.eq_of_beq_eq_true h]

def same : Tm → Tm → Bool
  | .iv a, .iv b => Nat.beq a b
  | .il a, .il b => sameI a b
  | .add a b, .add c d => same a c && same b d
  | .sub a b, .sub c d => same a c && same b d
  | .mul a b, .mul c d => same a c && same b d
  | .dv a b, .dv c d => same a c && same b d
  | .md a b, .md c d => same a c && same b d
  | .quo a b, .quo c d => same a c && same b d
  | .rem a b, .rem c d => same a c && same b d
  | .pw a, .pw b => same a b
  | .wrap k a, .wrap l b => Nat.beq (kNo k) (kNo l) && same a b
  | .bop o k a b, .bop p l c d => Nat.beq (oNo o) (oNo p) && (Nat.beq (kNo k) (kNo l) && (same a c && same b d))
  | .len a, .len b => same a b
  | .byte a b, .byte c d => same a c && same b d
  | .ap f a b c, .ap g d e h => Nat.beq f g && (same a d && (same b e && same c h))
  | .bv a, .bv b => Nat.beq a b
  | .bl a, .bl b => match a, b with | true, true => true | false, false => true | _, _ => false
  | .lt a b, .lt c d => same a c && same b d
  | .le a b, .le c d => same a c && same b d
  | .eq a b, .eq c d => same a c && same b d
  | .not a, .not b => same a b
  | .and a b, .and c d => same a c && same b d
  | .or a b, .or c d => same a c && same b d
  | .seq a b, .seq c d => same a c && same b d
  | .bq a b, .bq c d => same a c && same b d
  | .ite a b c, .ite d e f => same a d && (same b e && same c f)
  | .sv a, .sv b => Nat.beq a b
  | .sl a, .sl b => sameL a b
  | .cut a b c, .cut d e f => same a d && (same b e && same c f)
  | .app a b, .app c d => same a c && same b d
  | .chr a, .chr b => same a b
  | .cv a, .cv b => Nat.beq a b
  | .tb f a b c, .tb g d e h => sameO f g && (same a d && (same b e && same c h))
  | _, _ => false
set_option maxHeartbeats 4000000 in
theorem same_eq : ∀ {a b : Tm}, same a b = true → a = b := by
  intro a
  induction a with
  | il n => intro b h; cases b <;> simp_all [same]; exact sameI_eq h
  | wrap k x ih => intro b h; cases b <;> simp [same] at h; exact by rw [kNo_inj h.1, ih h.2]
  | bop o k x y ih1 ih2 => intro b h; cases b <;> simp [same] at h; exact by rw [oNo_inj h.1, kNo_inj h.2.1, ih1 h.2.2.1, ih2 h.2.2.2]
  | ap f x y z i1 i2 i3 => intro b h; cases b <;> simp [same] at h; exact by rw [h.1, i1 h.2.1, i2 h.2.2.1, i3 h.2.2.2]
  | tb f x y z i1 i2 i3 => intro b h; cases b <;> simp [same] at h; exact by rw [sameO_eq h.1, i1 h.2.1, i2 h.2.2.1, i3 h.2.2.2]
  | cv n => intro b h; cases b <;> simp_all [same]
  | bl p => intro b h; cases b <;> simp [same] at h; rename_i q; cases p <;> cases q <;> simp_all
  | sl l => intro b h; cases b <;> simp [same] at h; exact by rw [sameL_eq h]
  | iv n => intro b h; cases b <;> simp_all [same]
  | bv n => intro b h; cases b <;> simp_all [same]
  | sv n => intro b h; cases b <;> simp_all [same]
  | pw x ih => intro b h; cases b <;> simp [same] at h; rw [ih h]
  | len x ih => intro b h; cases b <;> simp [same] at h; rw [ih h]
  | not x ih => intro b h; cases b <;> simp [same] at h; rw [ih h]
  | chr x ih => intro b h; cases b <;> simp [same] at h; rw [ih h]
  | ite c x y i1 i2 i3 => intro b h; cases b <;> simp [same] at h; rw [i1 h.1, i2 h.2.1, i3 h.2.2]
  | cut c x y i1 i2 i3 => intro b h; cases b <;> simp [same] at h; rw [i1 h.1, i2 h.2.1, i3 h.2.2]
  | add x y i1 i2 => intro b h; cases b <;> simp [same] at h; rw [i1 h.1, i2 h.2]
  | sub x y i1 i2 => intro b h; cases b <;> simp [same] at h; rw [i1 h.1, i2 h.2]
  | mul x y i1 i2 => intro b h; cases b <;> simp [same] at h; rw [i1 h.1, i2 h.2]
  | dv x y i1 i2 => intro b h; cases b <;> simp [same] at h; rw [i1 h.1, i2 h.2]
  | md x y i1 i2 => intro b h; cases b <;> simp [same] at h; rw [i1 h.1, i2 h.2]
  | quo x y i1 i2 => intro b h; cases b <;> simp [same] at h; rw [i1 h.1, i2 h.2]
  | rem x y i1 i2 => intro b h; cases b <;> simp [same] at h; rw [i1 h.1, i2 h.2]
  | byte x y i1 i2 => intro b h; cases b <;> simp [same] at h; rw [i1 h.1, i2 h.2]
  | lt x y i1 i2 => intro b h; cases b <;> simp [same] at h; rw [i1 h.1, i2 h.2]
  | le x y i1 i2 => intro b h; cases b <;> simp [same] at h; rw [i1 h.1, i2 h.2]
  | eq x y i1 i2 => intro b h; cases b <;> simp [same] at h; rw [i1 h.1, i2 h.2]
  | and x y i1 i2 => intro b h; cases b <;> simp [same] at h; rw [i1 h.1, i2 h.2]
  | or x y i1 i2 => intro b h; cases b <;> simp [same] at h; rw [i1 h.1, i2 h.2]
  | seq x y i1 i2 => intro b h; cases b <;> simp [same] at h; rw [i1 h.1, i2 h.2]
  | bq x y i1 i2 => intro b h; cases b <;> simp [same] at h; rw [i1 h.1, i2 h.2]
  | app x y i1 i2 => intro b h; cases b <;> simp [same] at h; rw [i1 h.1, i2 h.2]

/-! Between which numbers a term lies. -/
structure Bd where
  t : Tm
  lo : Int
  hi : Int
  deriving Repr, Inhabited
def Bd.ok (ρ : Env) (x : Bd) : Prop := x.lo ≤ (den ρ x.t).i ∧ (den ρ x.t).i ≤ x.hi
/-- All bounds hold. -/
def Bds (ρ : Env) (bs : List Bd) : Prop := ∀ x ∈ bs, x.ok ρ

def leI (a b : Int) : Bool := decide (a ≤ b)
abbrev Rg := Option (Int × Int)
def Rg.ok (r : Rg) (n : Int) : Prop := ∀ lo hi, r = some (lo, hi) → lo ≤ n ∧ n ≤ hi
theorem Rg.ok_none (n : Int) : Rg.ok none n := fun _ _ h => by cases h
theorem Rg.ok_some {lo hi n : Int} (h : lo ≤ n ∧ n ≤ hi) : Rg.ok (some (lo, hi)) n := fun a b e => by
  injection e with e
  injection e with e1 e2
  subst e1 e2
  exact h
def maxZ (a b : Int) : Int := if leI a b then b else a
def minZ (a b : Int) : Int := if leI a b then a else b
theorem maxZ_le {a b n : Int} (h1 : a ≤ n) (h2 : b ≤ n) : maxZ a b ≤ n := by unfold maxZ; split <;> assumption
theorem le_minZ {a b n : Int} (h1 : n ≤ a) (h2 : n ≤ b) : n ≤ minZ a b := by unfold minZ; split <;> assumption
theorem minZ_le {a b n : Int} (h : a ≤ n ∨ b ≤ n) : minZ a b ≤ n := by
  unfold minZ leI
  split <;> rename_i q <;> simp at q <;> omega
theorem le_maxZ {a b n : Int} (h : n ≤ a ∨ n ≤ b) : n ≤ maxZ a b := by
  unfold maxZ leI
  split <;> rename_i q <;> simp at q <;> omega
def meet : Rg → Rg → Rg
  | none, r => r
  | r, none => r
  | some (a, b), some (c, d) => some (maxZ a c, minZ b d)
theorem meet_ok {r s : Rg} {n : Int} (h1 : r.ok n) (h2 : s.ok n) : (meet r s).ok n := by
  cases r with
  | none => exact h2
  | some p =>
    cases s with
    | none => exact h1
    | some q =>
      have a := h1 _ _ rfl
      have b := h2 _ _ rfl
      exact Rg.ok_some ⟨maxZ_le a.1 b.1, le_minZ a.2 b.2⟩
/-- What is told of the very term. -/
def told (t : Tm) : List Bd → Rg
  | [] => none
  | x :: bs => if same t x.t then meet (some (x.lo, x.hi)) (told t bs) else told t bs
theorem told_ok {ρ : Env} {t : Tm} : ∀ {bs : List Bd}, Bds ρ bs → (told t bs).ok (den ρ t).i
  | [], _ => Rg.ok_none _
  | x :: bs, h => by
    unfold told
    have ih := told_ok (t := t) (bs := bs) fun y hy => h y (List.mem_cons_of_mem _ hy)
    split
    · rename_i e
      have := same_eq e
      subst this
      exact meet_ok (Rg.ok_some (h x (List.mem_cons_self ..))) ih
    · exact ih

def kMin : IntKind → Int
  | .i8 => -128 | .i16 => -32768 | .i32 => -2147483648 | .i64 => -9223372036854775808 | _ => 0
def kMax : IntKind → Int
  | .i8 => 127 | .i16 => 32767 | .i32 => 2147483647 | .i64 => 9223372036854775807 | .u8 => 255 | .u16 => 65535 | .u32 => 4294967295 | .u64 => 18446744073709551615
theorem wrap_in {k : IntKind} {n : Int} (h : kMin k ≤ n) (h' : n ≤ kMax k) : k.wrap n = n := by
  cases k <;> simp only [kMin, kMax] at h h'
  · exact IntWalk.i8_in _ ⟨h, h'⟩
  · exact IntWalk.i16_in _ ⟨h, h'⟩
  · exact IntWalk.i32_in _ ⟨h, h'⟩
  · exact IntWalk.i64_in _ ⟨h, h'⟩
  · exact IntWalk.u8_in _ ⟨h, h'⟩
  · exact IntWalk.u16_in _ ⟨h, h'⟩
  · exact IntWalk.u32_in _ ⟨h, h'⟩
  · exact IntWalk.u64_in _ ⟨h, h'⟩
theorem wrap_bd (k : IntKind) (n : Int) : kMin k ≤ k.wrap n ∧ k.wrap n ≤ kMax k := by
  cases k <;> simp only [kMin, kMax, IntKind.wrap, IntKind.bits, IntKind.signed] <;> simp <;> (try split) <;> omega
theorem bits_bd (o : BinOp) (k : IntKind) (x y : Int) : kMin k ≤ bits o k x y ∧ bits o k x y ≤ kMax k := wrap_bd k _

def rAdd : Rg → Rg → Rg
  | some (a, b), some (c, d) => some (a + c, b + d)
  | _, _ => none
def rSub : Rg → Rg → Rg
  | some (a, b), some (c, d) => some (a - d, b - c)
  | _, _ => none
def rMul : Rg → Rg → Rg
  | some (a, b), some (c, d) => if leI 0 a && leI 0 c then some (a * c, b * d) else if leI 0 c && leI c d && leI d c then some (a * c, b * c) else none
  | _, _ => none
def rDv : Rg → Rg → Rg
  | some (a, b), some (c, d) => if leI 1 c && leI d c then some (a / c, b / c) else if leI 1 c && leI 0 a then some (0, b) else none
  | _, _ => none
def rMd : Rg → Rg → Rg
  | some (a, b), some (c, d) => if leI 1 c then (if leI 0 a then some (0, minZ b (d - 1)) else some (0, d - 1)) else none
  | none, some (c, d) => if leI 1 c then some (0, d - 1) else none
  | _, _ => none
def rQuo : Rg → Rg → Rg
  | some (a, b), some (c, d) => if leI 1 c && leI 0 a then some (0, b) else none
  | _, _ => none
def rRem : Rg → Rg → Rg
  | some (a, b), some (c, d) => if leI 1 c then (if leI 0 a then some (0, d - 1) else some (1 - d, d - 1)) else none
  | none, some (c, d) => if leI 1 c then some (1 - d, d - 1) else none
  | _, _ => none
def rIte : Rg → Rg → Rg
  | some (a, b), some (c, d) => some (minZ a c, maxZ b d)
  | _, _ => none
theorem rAdd_ok {r s : Rg} {x y : Int} (h1 : r.ok x) (h2 : s.ok y) : (rAdd r s).ok (x + y) := by
  unfold rAdd
  split
  · have a := h1 _ _ rfl
    have b := h2 _ _ rfl
    exact Rg.ok_some (by omega)
  · exact Rg.ok_none _
theorem rSub_ok {r s : Rg} {x y : Int} (h1 : r.ok x) (h2 : s.ok y) : (rSub r s).ok (x - y) := by
  unfold rSub
  split
  · have a := h1 _ _ rfl
    have b := h2 _ _ rfl
    exact Rg.ok_some (by omega)
  · exact Rg.ok_none _
theorem rMul_ok {r s : Rg} {x y : Int} (h1 : r.ok x) (h2 : s.ok y) : (rMul r s).ok (x * y) := by
  unfold rMul
  split
  · have a := h1 _ _ rfl
    have b := h2 _ _ rfl
    split
    · rename_i q
      simp [leI] at q
      exact Rg.ok_some ⟨Int.mul_le_mul a.1 b.1 q.2 (by omega), Int.mul_le_mul a.2 b.2 (by omega) (by omega)⟩
    · split
      · rename_i q
        simp [leI] at q
        have hy : y = _ := Int.le_antisymm (Int.le_trans b.2 q.2) b.1
        subst hy
        exact Rg.ok_some ⟨Int.mul_le_mul_of_nonneg_right a.1 q.1.1, Int.mul_le_mul_of_nonneg_right a.2 q.1.1⟩
      · exact Rg.ok_none _
  · exact Rg.ok_none _
theorem rDv_ok {r s : Rg} {x y : Int} (h1 : r.ok x) (h2 : s.ok y) : (rDv r s).ok (x / y) := by
  unfold rDv
  split
  · have a := h1 _ _ rfl
    have b := h2 _ _ rfl
    split
    · rename_i q
      simp [leI] at q
      have hy : y = _ := Int.le_antisymm (Int.le_trans b.2 q.2) b.1
      subst hy
      exact Rg.ok_some ⟨Int.ediv_le_ediv (by omega) a.1, Int.ediv_le_ediv (by omega) a.2⟩
    · split
      · rename_i q
        simp [leI] at q
        exact Rg.ok_some ⟨Int.ediv_nonneg (by omega) (by omega), Int.le_trans (Int.ediv_le_self _ (by omega)) a.2⟩
      · exact Rg.ok_none _
  · exact Rg.ok_none _
theorem rMd_ok {r s : Rg} {x y : Int} (h1 : r.ok x) (h2 : s.ok y) : (rMd r s).ok (x % y) := by
  unfold rMd
  split
  · have a := h1 _ _ rfl
    have b := h2 _ _ rfl
    split
    · rename_i q
      simp [leI] at q
      have e1 := Int.emod_nonneg x (show y ≠ 0 by omega)
      have e2 := Int.emod_lt_of_pos x (show 0 < y by omega)
      split
      · rename_i q2
        simp [leI] at q2
        have e3 : x % y ≤ x := by
          have := Int.emod_add_mul_ediv x y
          have h3 : 0 ≤ x / y := Int.ediv_nonneg (by omega) (by omega)
          have h4 : 0 ≤ y * (x / y) := Int.mul_nonneg (by omega) h3
          omega
        exact Rg.ok_some ⟨e1, le_minZ (by omega) (by omega)⟩
      · exact Rg.ok_some ⟨e1, by omega⟩
    · exact Rg.ok_none _
  · have b := h2 _ _ rfl
    split
    · rename_i q
      simp [leI] at q
      have e1 := Int.emod_nonneg x (show y ≠ 0 by omega)
      have e2 := Int.emod_lt_of_pos x (show 0 < y by omega)
      exact Rg.ok_some ⟨e1, by omega⟩
    · exact Rg.ok_none _
  · exact Rg.ok_none _
theorem rQuo_ok {r s : Rg} {x y : Int} (h1 : r.ok x) (h2 : s.ok y) : (rQuo r s).ok (x.tdiv y) := by
  unfold rQuo
  split
  · have a := h1 _ _ rfl
    have b := h2 _ _ rfl
    split
    · rename_i q
      simp [leI] at q
      rw [Int.tdiv_eq_ediv_of_nonneg (by omega)]
      exact Rg.ok_some ⟨Int.ediv_nonneg (by omega) (by omega), Int.le_trans (Int.ediv_le_self _ (by omega)) a.2⟩
    · exact Rg.ok_none _
  · exact Rg.ok_none _
theorem tmod_bd (x y d : Int) (h : 1 ≤ y) (hd : y ≤ d) : 1 - d ≤ x.tmod y ∧ x.tmod y ≤ d - 1 := by
  rcases Int.le_total 0 x with hx | hx
  · rw [Int.tmod_eq_emod_of_nonneg hx]
    have e1 := Int.emod_nonneg x (show y ≠ 0 by omega)
    have e2 := Int.emod_lt_of_pos x (show 0 < y by omega)
    omega
  · have e : x.tmod y = -((-x) % y) := by
      rw [← Int.tmod_eq_emod_of_nonneg (show 0 ≤ -x by omega), Int.neg_tmod]; omega
    have e1 := Int.emod_nonneg (-x) (show y ≠ 0 by omega)
    have e2 := Int.emod_lt_of_pos (-x) (show 0 < y by omega)
    omega
theorem rRem_ok {r s : Rg} {x y : Int} (h1 : r.ok x) (h2 : s.ok y) : (rRem r s).ok (x.tmod y) := by
  unfold rRem
  split
  · have a := h1 _ _ rfl
    have b := h2 _ _ rfl
    split
    · rename_i q
      simp [leI] at q
      split
      · rename_i q2
        simp [leI] at q2
        rw [Int.tmod_eq_emod_of_nonneg (by omega)]
        have e1 := Int.emod_nonneg x (show y ≠ 0 by omega)
        have e2 := Int.emod_lt_of_pos x (show 0 < y by omega)
        exact Rg.ok_some ⟨by omega, by omega⟩
      · exact Rg.ok_some (tmod_bd _ _ _ (by omega) (by omega))
    · exact Rg.ok_none _
  · have b := h2 _ _ rfl
    split
    · rename_i q
      simp [leI] at q
      exact Rg.ok_some (tmod_bd _ _ _ (by omega) (by omega))
    · exact Rg.ok_none _
  · exact Rg.ok_none _
theorem rIte_ok {r s : Rg} {x y : Int} (c : Bool) (h1 : r.ok x) (h2 : s.ok y) : (rIte r s).ok (if c then x else y) := by
  unfold rIte
  split
  · have a := h1 _ _ rfl
    have b := h2 _ _ rfl
    cases c
    · exact Rg.ok_some ⟨minZ_le (.inr b.1), le_maxZ (.inr b.2)⟩
    · exact Rg.ok_some ⟨minZ_le (.inl a.1), le_maxZ (.inl a.2)⟩
  · exact Rg.ok_none _

def rPw : Rg → Rg
  | some (a, b) => if leI 0 a && leI b 64 then some (1, (2 : Int) ^ b.toNat) else none
  | none => none
theorem rPw_ok {r : Rg} {x : Int} (h : r.ok x) : (rPw r).ok (2 ^ x.toNat) := by
  unfold rPw
  split
  · have a := h _ _ rfl
    split
    · rename_i q
      refine Rg.ok_some ⟨?_, ?_⟩
      · have : 0 < 2 ^ x.toNat := Nat.pow_pos (by decide : 0 < 2)
        have e : ((2 ^ x.toNat : Nat) : Int) = (2 : Int) ^ x.toNat := by simp
        omega
      · have e : ∀ m : Nat, ((2 ^ m : Nat) : Int) = (2 : Int) ^ m := fun m => by simp
        rw [← e, ← e]
        exact Int.ofNat_le.2 (Nat.pow_le_pow_right (by decide : 0 < 2) (Int.toNat_le_toNat a.2))
    · exact Rg.ok_none _
  · exact Rg.ok_none _

def rWrap (k : IntKind) : Rg → Rg
  | some (a, b) => if leI (kMin k) a && leI b (kMax k) then some (a, b) else some (kMin k, kMax k)
  | none => some (kMin k, kMax k)
theorem rWrap_ok {k : IntKind} {r : Rg} {x : Int} (h : r.ok x) : (rWrap k r).ok (k.wrap x) := by
  unfold rWrap
  split
  · have a := h _ _ rfl
    split
    · rename_i q
      simp [leI] at q
      rw [wrap_in (by omega) (by omega)]
      exact Rg.ok_some a
    · exact Rg.ok_some (wrap_bd _ _)
  · exact Rg.ok_some (wrap_bd _ _)

/-- Of a string's length. -/
def rlen (bs : List Bd) : Tm → Rg
  | .sl l => some ((l.length : Int), (l.length : Int))
  | .chr _ => some (1, 1)
  | .app s t => meet (rAdd (rlen bs s) (rlen bs t)) (told (.len (.app s t)) bs)
  | .ite c x y => meet (rIte (rlen bs x) (rlen bs y)) (told (.len (.ite c x y)) bs)
  | .tb (.get .str f) x y z => meet (some (0, 9223372036854775807)) (told (.len (.tb (.get .str f) x y z)) bs)
  | t => told (.len t) bs
/-- Between which numbers a term lies. -/
def rng (bs : List Bd) : Tm → Rg
  | .il n => some (n, n)
  | .add x y => meet (rAdd (rng bs x) (rng bs y)) (told (.add x y) bs)
  | .sub x y => meet (rSub (rng bs x) (rng bs y)) (told (.sub x y) bs)
  | .mul x y => meet (rMul (rng bs x) (rng bs y)) (told (.mul x y) bs)
  | .dv x y => meet (rDv (rng bs x) (rng bs y)) (told (.dv x y) bs)
  | .md x y => meet (rMd (rng bs x) (rng bs y)) (told (.md x y) bs)
  | .quo x y => meet (rQuo (rng bs x) (rng bs y)) (told (.quo x y) bs)
  | .rem x y => meet (rRem (rng bs x) (rng bs y)) (told (.rem x y) bs)
  | .pw x => rPw (rng bs x)
  | .wrap k x => meet (rWrap k (rng bs x)) (told (.wrap k x) bs)
  | .bop o k x y => meet (some (kMin k, kMax k)) (told (.bop o k x y) bs)
  | .len s => rlen bs s
  | .byte s i => meet (some (0, 255)) (told (.byte s i) bs)
  | .ite c x y => meet (rIte (rng bs x) (rng bs y)) (told (.ite c x y) bs)
  | .tb (.get (.int k) f) x y z => meet (some (kMin k, kMax k)) (told (.tb (.get (.int k) f) x y z) bs)
  | t => told t bs

theorem byteOf_bd (s : ByteArray) (i : Int) : 0 ≤ byteOf s i ∧ byteOf s i ≤ 255 := by
  unfold byteOf
  have := (s.data.toList.getD i.toNat 0).toNat_lt
  omega
theorem getI_bd (k : IntKind) (v : Value) : kMin k ≤ (getV (.int k) v).i ∧ (getV (.int k) v).i ≤ kMax k := by
  cases v <;> first
    | exact wrap_bd _ _
    | (show kMin k ≤ 0 ∧ 0 ≤ kMax k; cases k <;> decide)
theorem capS_bd (s : ByteArray) : (if s.size ≤ 9223372036854775807 then s else none8).size ≤ 9223372036854775807 := by
  by_cases h : s.size ≤ 9223372036854775807
  · rw [if_pos h]; exact h
  · rw [if_neg h]; exact Nat.zero_le _
theorem getS_bd' (v : Value) : (getV .str v).s.size ≤ 9223372036854775807 := by
  cases v with
  | string s => exact capS_bd s
  | _ => exact Nat.zero_le _
theorem getS_bd (v : Value) : (0 : Int) ≤ ((getV .str v).s.size : Int) ∧ ((getV .str v).s.size : Int) ≤ 9223372036854775807 := by
  have := getS_bd' v
  omega
theorem ite_dn (c : Bool) (x y : Dn) : (if c then x else y).i = if c then x.i else y.i := by cases c <;> rfl
theorem ite_ds (c : Bool) (x y : Dn) : (if c then x else y).s = if c then x.s else y.s := by cases c <;> rfl
theorem rlen_ok {ρ : Env} {bs : List Bd} (h : Bds ρ bs) (t : Tm) : (rlen bs t).ok ((den ρ t).s.size : Int) := by
  induction t with
  | sl l => exact Rg.ok_some (by show _ ≤ ((l.toArray.size : Nat) : Int) ∧ ((l.toArray.size : Nat) : Int) ≤ _; simp)
  | chr x _ => exact Rg.ok_some ⟨Int.le_refl _, Int.le_refl _⟩
  | app s t i1 i2 =>
    refine meet_ok ?_ (told_ok (t := .len (.app s t)) h)
    have := rAdd_ok i1 i2
    show Rg.ok _ ((((den ρ s).s ++ (den ρ t).s).size : Nat) : Int)
    rw [ByteArray.size_append]
    simpa using this
  | ite c x y _ i1 i2 =>
    refine meet_ok ?_ (told_ok (t := .len (.ite c x y)) h)
    have := rIte_ok (den ρ c).b i1 i2
    show Rg.ok _ (((if (den ρ c).b then den ρ x else den ρ y).s.size : Nat) : Int)
    cases hc : (den ρ c).b <;> simpa [hc] using this
  | tb o x y z _ _ _ =>
    cases o with
    | get k f =>
      cases k with
      | str => exact meet_ok (Rg.ok_some (getS_bd _)) (told_ok (t := .len (.tb (.get .str f) x y z)) h)
      | _ => exact told_ok (t := .len _) h
    | _ => exact told_ok (t := .len _) h
  | _ => exact told_ok (t := .len _) h
theorem rng_ok {ρ : Env} {bs : List Bd} (h : Bds ρ bs) (t : Tm) : (rng bs t).ok (den ρ t).i := by
  induction t with
  | il n => exact Rg.ok_some ⟨Int.le_refl _, Int.le_refl _⟩
  | add x y i1 i2 => exact meet_ok (rAdd_ok i1 i2) (told_ok (t := .add x y) h)
  | sub x y i1 i2 => exact meet_ok (rSub_ok i1 i2) (told_ok (t := .sub x y) h)
  | mul x y i1 i2 => exact meet_ok (rMul_ok i1 i2) (told_ok (t := .mul x y) h)
  | dv x y i1 i2 => exact meet_ok (rDv_ok i1 i2) (told_ok (t := .dv x y) h)
  | md x y i1 i2 => exact meet_ok (rMd_ok i1 i2) (told_ok (t := .md x y) h)
  | quo x y i1 i2 => exact meet_ok (rQuo_ok i1 i2) (told_ok (t := .quo x y) h)
  | rem x y i1 i2 => exact meet_ok (rRem_ok i1 i2) (told_ok (t := .rem x y) h)
  | pw x i1 => exact rPw_ok i1
  | wrap k x i1 => exact meet_ok (rWrap_ok i1) (told_ok (t := .wrap k x) h)
  | bop o k x y _ _ => exact meet_ok (Rg.ok_some (bits_bd _ _ _ _)) (told_ok (t := .bop o k x y) h)
  | len s _ => exact rlen_ok h s
  | byte s i _ _ => exact meet_ok (Rg.ok_some (byteOf_bd _ _)) (told_ok (t := .byte s i) h)
  | ite c x y _ i1 i2 =>
    refine meet_ok ?_ (told_ok (t := .ite c x y) h)
    have := rIte_ok (den ρ c).b i1 i2
    show Rg.ok _ (if (den ρ c).b then den ρ x else den ρ y).i
    rw [ite_dn]
    exact this
  | tb o x y z _ _ _ =>
    cases o with
    | get k f =>
      cases k with
      | int k => exact meet_ok (Rg.ok_some (getI_bd _ _)) (told_ok (t := .tb (.get (.int k) f) x y z) h)
      | _ => exact told_ok h
    | _ => exact told_ok h
  | _ => exact told_ok h

/-! Terms made small. -/
def isLit : Tm → Option Int
  | .il n => some n
  | _ => none
theorem isLit_eq {t : Tm} {n : Int} (h : isLit t = some n) : t = .il n := by
  cases t <;> simp [isLit] at h
  rw [h]
def mkAddL (x : Tm) (b : Int) : Tm :=
  match x with
  | .add u (.il c) => if sameI (c + b) 0 then u else .add u (.il (c + b))
  | .sub u (.il c) => if sameI (b - c) 0 then u else .add u (.il (b - c))
  | x => .add x (.il b)
theorem mkAddL_ok (ρ : Env) (x : Tm) (b : Int) : (den ρ (mkAddL x b)).i = (den ρ x).i + b := by
  unfold mkAddL
  split
  · rename_i u c
    split
    · rename_i q
      have := sameI_eq q
      show (den ρ u).i = ((den ρ u).i + c) + b
      omega
    · show (den ρ u).i + (c + b) = ((den ρ u).i + c) + b
      omega
  · rename_i u c
    split
    · rename_i q
      have := sameI_eq q
      show (den ρ u).i = ((den ρ u).i - c) + b
      omega
    · show (den ρ u).i + (b - c) = ((den ρ u).i - c) + b
      omega
  · rfl
def addR (x y : Tm) : Tm :=
  match y with
  | .add v (.il d) => mkAddL (.add x v) d
  | y => .add x y
theorem addR_ok (ρ : Env) (x y : Tm) : (den ρ (addR x y)).i = (den ρ x).i + (den ρ y).i := by
  unfold addR
  split
  · rename_i v d
    rw [mkAddL_ok]
    show (den ρ x).i + (den ρ v).i + d = (den ρ x).i + ((den ρ v).i + d)
    omega
  · rfl
def addN (x y : Tm) : Tm :=
  match x with
  | .add u (.il c) => mkAddL (addR u y) c
  | x => addR x y
theorem addN_ok (ρ : Env) (x y : Tm) : (den ρ (addN x y)).i = (den ρ x).i + (den ρ y).i := by
  unfold addN
  split
  · rename_i u c
    rw [mkAddL_ok, addR_ok]
    show (den ρ u).i + (den ρ y).i + c = (den ρ u).i + c + (den ρ y).i
    omega
  · exact addR_ok ..
def mkAdd (x y : Tm) : Tm :=
  match isLit x, isLit y with
  | some a, some b => .il (a + b)
  | some a, none => if sameI a 0 then y else mkAddL y a
  | none, some b => if sameI b 0 then x else mkAddL x b
  | none, none => addN x y
theorem mkAdd_ok (ρ : Env) (x y : Tm) : (den ρ (mkAdd x y)).i = (den ρ x).i + (den ρ y).i := by
  unfold mkAdd
  split
  · rename_i h1 h2
    rw [isLit_eq h1, isLit_eq h2]
    rfl
  · rename_i h1 h2
    rw [isLit_eq h1]
    split
    · rename_i q
      rw [sameI_eq q]
      show _ = (0 : Int) + _
      omega
    · rw [mkAddL_ok]
      show _ + _ = _ + _
      exact Int.add_comm ..
  · rename_i h1 h2
    rw [isLit_eq h2]
    split
    · rename_i q
      rw [sameI_eq q]
      show _ = _ + (0 : Int)
      omega
    · exact mkAddL_ok ρ x _
  · exact addN_ok ..
def mkSubA (x y : Tm) : Tm :=
  match x with
  | .add u (.il c) => if same u y then .il c else .sub (.add u (.il c)) y
  | x => .sub x y
theorem mkSubA_ok (ρ : Env) (x y : Tm) : (den ρ (mkSubA x y)).i = (den ρ x).i - (den ρ y).i := by
  unfold mkSubA
  split
  · rename_i u c
    split
    · rename_i q
      rw [same_eq q]
      show c = ((den ρ y).i + c) - (den ρ y).i
      omega
    · rfl
  · rfl
/-- One addend taken away. -/
def rem1 (y : Tm) : Tm → Option Tm
  | .add a b => if same b y then some a else if same a y then some b else match rem1 y a with
    | some a' => some (mkAdd a' b)
    | none => match rem1 y b with
      | some b' => some (mkAdd a b')
      | none => none
  | _ => none
theorem rem1_ok {ρ : Env} {y : Tm} : ∀ {x t : Tm}, rem1 y x = some t → (den ρ t).i = (den ρ x).i - (den ρ y).i := by
  intro x
  induction x with
  | add a b i1 i2 =>
    intro t h
    have e : (den ρ (.add a b)).i = (den ρ a).i + (den ρ b).i := rfl
    simp only [rem1] at h
    split at h
    · rename_i q
      injection h with h
      subst h
      rw [e, same_eq q]
      omega
    · split at h
      · rename_i q
        injection h with h
        subst h
        rw [e, same_eq q]
        omega
      · split at h
        · rename_i a' ha
          injection h with h
          subst h
          rw [mkAdd_ok, i1 ha, e]
          omega
        · split at h
          · rename_i b' hb
            injection h with h
            subst h
            rw [mkAdd_ok, i2 hb, e]
            omega
          · cases h
  | _ => intro t h; cases h
/-- All addends of y taken away. -/
def subN (x : Tm) : Tm → Option Tm
  | .add u v => match subN x u with
    | some x' => match v with
      | .il b => some (mkAdd x' (.il (-b)))
      | v => if same x' v then some (.il 0) else rem1 v x'
    | none => none
  | y => if same x y then some (.il 0) else rem1 y x
theorem subN1_ok {ρ : Env} {x y t : Tm} (h : (if same x y then some (.il 0) else rem1 y x) = some t) : (den ρ t).i = (den ρ x).i - (den ρ y).i := by
  split at h
  · rename_i q
    injection h with h
    subst h
    rw [same_eq q]
    show (0 : Int) = _
    omega
  · exact rem1_ok h
theorem subN_ok {ρ : Env} {x : Tm} : ∀ {y t : Tm}, subN x y = some t → (den ρ t).i = (den ρ x).i - (den ρ y).i := by
  intro y
  induction y with
  | add u v i1 i2 =>
    intro t h
    have e : (den ρ (.add u v)).i = (den ρ u).i + (den ρ v).i := rfl
    simp only [subN] at h
    split at h
    · rename_i x' hx
      have h1 := i1 hx
      split at h
      · rename_i b
        injection h with h
        subst h
        rw [mkAdd_ok, e, h1]
        show _ + -b = _ - (_ + b)
        omega
      · have := subN1_ok (ρ := ρ) h
        omega
    · cases h
  | _ => intro t h; exact subN1_ok h
def mkSubB (x y : Tm) : Tm :=
  match subN x y with
  | some t => t
  | none => match subN y x with
    | some t => .sub (.il 0) t
    | none => mkSubA x y
theorem mkSubB_ok (ρ : Env) (x y : Tm) : (den ρ (mkSubB x y)).i = (den ρ x).i - (den ρ y).i := by
  unfold mkSubB
  split
  · rename_i t h
    exact subN_ok h
  · split
    · rename_i t h
      have := subN_ok (ρ := ρ) h
      show (0 : Int) - (den ρ t).i = _
      omega
    · exact mkSubA_ok ρ x y
def mkSub (x y : Tm) : Tm :=
  match isLit y with
  | some b => mkAdd x (.il (-b))
  | none => if same x y then .il 0 else mkSubB x y
theorem mkSub_ok (ρ : Env) (x y : Tm) : (den ρ (mkSub x y)).i = (den ρ x).i - (den ρ y).i := by
  unfold mkSub
  split
  · rename_i b h
    rw [isLit_eq h, mkAdd_ok]
    show (den ρ x).i + -b = (den ρ x).i - b
    omega
  · split
    · rename_i q
      rw [same_eq q]
      show (0 : Int) = _
      omega
    · exact mkSubB_ok ρ x y
def mkMul (x y : Tm) : Tm :=
  match isLit x, isLit y with
  | some a, some b => .il (a * b)
  | some a, none => if sameI a 1 then y else if sameI a 0 then .il 0 else .mul x y
  | none, some b => if sameI b 1 then x else if sameI b 0 then .il 0 else .mul x y
  | none, none => .mul x y
theorem mkMul_ok (ρ : Env) (x y : Tm) : (den ρ (mkMul x y)).i = (den ρ x).i * (den ρ y).i := by
  unfold mkMul
  split
  · rename_i h1 h2
    rw [isLit_eq h1, isLit_eq h2]
    rfl
  · rename_i h1 h2
    rw [isLit_eq h1]
    split
    · rename_i q
      rw [sameI_eq q]
      show _ = (1 : Int) * _
      omega
    · split
      · rename_i q
        rw [sameI_eq q]
        show (0 : Int) = (0 : Int) * _
        omega
      · rfl
  · rename_i h1 h2
    rw [isLit_eq h2]
    split
    · rename_i q
      rw [sameI_eq q]
      show _ = _ * (1 : Int)
      omega
    · split
      · rename_i q
        rw [sameI_eq q]
        show (0 : Int) = _ * (0 : Int)
        omega
      · rfl
  · rfl
def leI' (a b : Int) : Bool := decide (a ≤ b)
def dv1 (z : Tm) (b : Int) : Tm :=
  match z with
  | .dv z' (.il a) => if leI' 1 a && leI' 1 b then .dv z' (.il (a * b)) else .dv z (.il b)
  | _ => .dv z (.il b)
theorem dv1_ok (ρ : Env) (z : Tm) (b : Int) : (den ρ (dv1 z b)).i = (den ρ z).i / b := by
  unfold dv1
  split
  · rename_i z' a
    split
    · rename_i q
      simp only [leI', Bool.and_eq_true, decide_eq_true_eq] at q
      show (den ρ z').i / (a * b) = (den ρ z').i / a / b
      rw [Int.ediv_ediv_of_nonneg (by omega)]
    · rfl
  · rfl
theorem md_dv {x m b : Int} (hb : 1 ≤ b) (hm : 1 ≤ m) (hd : m % b = 0) : x % m / b = x / b % (m / b) := by
  obtain ⟨k, hk⟩ := Int.dvd_of_emod_eq_zero hd
  have hk1 : m / b = k := by rw [hk, Int.mul_ediv_cancel_left _ (by omega)]
  have h1 : x % (b * k) = x - b * k * (x / (b * k)) := Int.emod_def ..
  have h2 : x / (b * k) = x / b / k := (Int.ediv_ediv_of_nonneg (by omega)).symm
  have h3 : x / b % k = x / b - k * (x / b / k) := Int.emod_def ..
  rw [hk1, hk]
  rw [h1, h2, h3, show x - b * k * (x / b / k) = x + b * (-(k * (x / b / k))) from by rw [Int.mul_neg, ← Int.mul_assoc]; omega, Int.add_mul_ediv_left _ _ (by omega)]
  omega
def mkDv (x y : Tm) : Tm :=
  match isLit x, isLit y with
  | some a, some b => .il (a / b)
  | none, some b =>
    if sameI b 1 then x
    else
      match x with
      | .md z (.il m) => if leI' 1 b && (leI' 1 m && sameI (m % b) 0) then .md (dv1 z b) (.il (m / b)) else .dv x y
      | x => dv1 x b
  | _, _ => .dv x y
theorem mkDv_ok (ρ : Env) (x y : Tm) : (den ρ (mkDv x y)).i = (den ρ x).i / (den ρ y).i := by
  unfold mkDv
  split
  · rename_i h1 h2
    rw [isLit_eq h1, isLit_eq h2]
    rfl
  · rename_i h1 h2
    rw [isLit_eq h2]
    split
    · rename_i q
      rw [sameI_eq q]
      show _ = _ / (1 : Int)
      rw [Int.ediv_one]
    · split
      · rename_i z m
        split
        · rename_i q
          simp only [leI', Bool.and_eq_true, decide_eq_true_eq] at q
          show (den ρ (dv1 z _)).i % (m / _) = (den ρ z).i % m / _
          rw [dv1_ok]
          exact (md_dv q.1 q.2.1 (sameI_eq q.2.2)).symm
        · rfl
      · exact dv1_ok ..
  · rfl
def mkPw (x : Tm) : Tm :=
  match isLit x with
  | some a => .il (2 ^ a.toNat)
  | none => .pw x
theorem mkPw_ok (ρ : Env) (x : Tm) : (den ρ (mkPw x)).i = 2 ^ (den ρ x).i.toNat := by
  unfold mkPw
  split
  · rename_i h
    rw [isLit_eq h]
    rfl
  · rfl
/-- Where the first lies in the range of the kind, it is not wrapped. -/
def fits (k : IntKind) : Rg → Bool
  | some (a, b) => leI (kMin k) a && leI b (kMax k)
  | none => false
theorem fits_ok {k : IntKind} {r : Rg} {n : Int} (h : fits k r = true) (hr : r.ok n) : kMin k ≤ n ∧ n ≤ kMax k := by
  unfold fits at h
  split at h
  · have := hr _ _ rfl
    simp [leI] at h
    omega
  · cases h
def nonneg : Rg → Bool
  | some (a, _) => leI 0 a
  | none => false
theorem nonneg_ok {r : Rg} {n : Int} (h : nonneg r = true) (hr : r.ok n) : 0 ≤ n := by
  unfold nonneg at h
  split at h
  · have := hr _ _ rfl
    simp [leI] at h
    omega
  · cases h
def mkQuo (bs : List Bd) (x y : Tm) : Tm := if nonneg (rng bs x) then mkDv x y else .quo x y
theorem mkQuo_ok {ρ : Env} {bs : List Bd} (hb : Bds ρ bs) (x y : Tm) : (den ρ (mkQuo bs x y)).i = (den ρ x).i.tdiv (den ρ y).i := by
  unfold mkQuo
  split
  · rename_i q
    rw [mkDv_ok, Int.tdiv_eq_ediv_of_nonneg (nonneg_ok q (rng_ok hb x))]
  · rfl
/-- x % y where x lies below y already. -/
def below : Rg → Rg → Bool
  | some (a, b), some (c, _) => leI 0 a && leI (b + 1) c
  | _, _ => false
theorem below_ok {r s : Rg} {m n : Int} (h : below r s = true) (hr : r.ok m) (hs : s.ok n) : 0 ≤ m ∧ m < n := by
  unfold below at h
  split at h
  · have a := hr _ _ rfl
    have b := hs _ _ rfl
    simp [leI] at h
    omega
  · cases h
def md1 (bs : List Bd) (x y : Tm) : Tm := if below (rng bs x) (rng bs y) then x else .md x y
theorem md1_ok {ρ : Env} {bs : List Bd} (hb : Bds ρ bs) (x y : Tm) : (den ρ (md1 bs x y)).i = (den ρ x).i % (den ρ y).i := by
  unfold md1
  split
  · rename_i q
    have := below_ok q (rng_ok hb x) (rng_ok hb y)
    rw [Int.emod_eq_of_lt this.1 this.2]
  · rfl
def mkMd (bs : List Bd) (x y : Tm) : Tm :=
  match isLit x, isLit y with
  | some a, some b => .il (a % b)
  | none, some k =>
    match x with
    | .md z (.il m) => if sameI (m % k) 0 then md1 bs z (.il k) else md1 bs x y
    | x => md1 bs x y
  | _, _ => md1 bs x y
theorem mkMd_ok {ρ : Env} {bs : List Bd} (hb : Bds ρ bs) (x y : Tm) : (den ρ (mkMd bs x y)).i = (den ρ x).i % (den ρ y).i := by
  unfold mkMd
  split
  · rename_i h1 h2
    rw [isLit_eq h1, isLit_eq h2]
    rfl
  · rename_i h1 h2
    split
    · rename_i z m
      split
      · rename_i q
        rw [md1_ok hb, isLit_eq h2]
        show _ % _ = (den ρ z).i % m % _
        exact (Int.emod_emod_of_dvd _ (Int.dvd_of_emod_eq_zero (sameI_eq q))).symm
      · exact md1_ok hb ..
    · exact md1_ok hb ..
  · exact md1_ok hb ..
def mkWrap (bs : List Bd) (k : IntKind) (x : Tm) : Tm :=
  match isLit x with
  | some a => .il (k.wrap a)
  | none => if fits k (rng bs x) then x else (match k with
    | .u8 => mkMd bs x (.il 256)
    | .u16 => mkMd bs x (.il 65536)
    | .u32 => mkMd bs x (.il 4294967296)
    | k => .wrap k x)
theorem mkWrap_ok {ρ : Env} {bs : List Bd} (hb : Bds ρ bs) (k : IntKind) (x : Tm) : (den ρ (mkWrap bs k x)).i = k.wrap (den ρ x).i := by
  unfold mkWrap
  split
  · rename_i h
    rw [isLit_eq h]
    rfl
  · split
    · rename_i q
      have := fits_ok q (rng_ok hb x)
      rw [wrap_in this.1 this.2]
    · split
      · rw [mkMd_ok hb]; show _ % (256 : Int) = _; simp [IntKind.wrap, IntKind.bits, IntKind.signed]
      · rw [mkMd_ok hb]; show _ % (65536 : Int) = _; simp [IntKind.wrap, IntKind.bits, IntKind.signed]
      · rw [mkMd_ok hb]; show _ % (4294967296 : Int) = _; simp [IntKind.wrap, IntKind.bits, IntKind.signed]
      · rfl
def mkRem (bs : List Bd) (x y : Tm) : Tm := if nonneg (rng bs x) then mkMd bs x y else .rem x y
theorem mkRem_ok {ρ : Env} {bs : List Bd} (hb : Bds ρ bs) (x y : Tm) : (den ρ (mkRem bs x y)).i = (den ρ x).i.tmod (den ρ y).i := by
  unfold mkRem
  split
  · rename_i q
    rw [mkMd_ok hb, Int.tmod_eq_emod_of_nonneg (nonneg_ok q (rng_ok hb x))]
  · rfl
def mkBop (o : BinOp) (k : IntKind) (x y : Tm) : Tm :=
  match isLit x, isLit y with
  | some a, some b => .il (bits o k a b)
  | _, _ => .bop o k x y
theorem mkBop_ok (ρ : Env) (o : BinOp) (k : IntKind) (x y : Tm) : (den ρ (mkBop o k x y)).i = bits o k (den ρ x).i (den ρ y).i := by
  unfold mkBop
  split
  · rename_i h1 h2
    rw [isLit_eq h1, isLit_eq h2]
    rfl
  · rfl
end Sy
end Go.Proofs.Ytnmfmjlpfhdgeaa
