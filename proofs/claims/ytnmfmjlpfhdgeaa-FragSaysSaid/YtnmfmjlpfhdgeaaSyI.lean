/- What a run with letters gives: leaves; states that are the same; results; slices built. -/
import Derived.Test.YtnmfmjlpfhdgeaaSyR
import Derived.Deep.RegionHeld3
namespace Go.Proofs.Ytnmfmjlpfhdgeaa
namespace Sy
open Go Go.RowKit
set_option linter.unusedVariables false
set_option linter.unusedSimpArgs false

/-! The same values. -/
def sameN : List Nat → List Nat → Bool
  | [], [] => true
  | a :: x, b :: y => Nat.beq a b && sameN x y
  | _, _ => false
theorem sameN_eq : ∀ {a b : List Nat}, sameN a b = true → a = b
  | [], [], _ => rfl
  | a :: x, b :: y, h => by
    simp only [sameN, Bool.and_eq_true] at h
    rw [Nat.eq_of_beq_eq_true h.1, sameN_eq h.2]
  | [], _ :: _, h => by simp [sameN] at h
  | _ :: _, [], h => by simp [sameN] at h
def sameC : C → C → Bool
  | .int k s, .int l t => Nat.beq (kNo k) (kNo l) && same s t
  | .bool s, .bool t => same s t
  | .str s, .str t => same s t
  | .ptr a b, .ptr c d => Nat.beq a c && Nat.beq b d
  | .nptr, .nptr => true
  | .slc a b s t, .slc c d u v => Nat.beq a c && (Nat.beq b d && (same s u && same t v))
  | .nslc, .nslc => true
  | .slr a s t x, .slr b u v y => Nat.beq a b && (same s u && (same t v && same x y))
  | .ptx a s, .ptx b t => Nat.beq a b && same s t
  | .fn f l, .fn g m => Nat.beq f g && sameN l m
  | .nmap, .nmap => true
  | .map a, .map b => Nat.beq a b
  | .opq a, .opq b => Nat.beq a b
  | .slt a m s t x, .slt b n u v y => Nat.beq a b && (Nat.beq m n && (same s u && (same t v && same x y)))
  | .pta a b m s f, .pta c d n t g => Nat.beq a c && (Nat.beq b d && (Nat.beq m n && (same s t && Nat.beq f g)))
  | .ptv s, .ptv t => same s t
  | .vls s, .vls t => same s t
  | .slz a m s, .slz b n t => Nat.beq a b && (Nat.beq m n && same s t)
  | _, _ => false
theorem sameC_eq {x y : C} (h : sameC x y = true) : x = y := by
  cases x <;> cases y <;> simp only [sameC, Bool.and_eq_true] at h <;> first
    | rfl
    | (cases h; done)
    | skip
  · rw [kNo_inj (Nat.eq_of_beq_eq_true h.1), same_eq h.2]
  · rw [same_eq h]
  · rw [same_eq h]
  · rw [Nat.eq_of_beq_eq_true h.1, Nat.eq_of_beq_eq_true h.2]
  · rw [Nat.eq_of_beq_eq_true h.1, Nat.eq_of_beq_eq_true h.2.1, same_eq h.2.2.1, same_eq h.2.2.2]
  · rw [Nat.eq_of_beq_eq_true h.1, same_eq h.2.1, same_eq h.2.2.1, same_eq h.2.2.2]
  · rw [Nat.eq_of_beq_eq_true h.1, same_eq h.2]
  · rw [Nat.eq_of_beq_eq_true h.1, sameN_eq h.2]
  · rw [Nat.eq_of_beq_eq_true h]
  · rw [Nat.eq_of_beq_eq_true h]
  · rw [Nat.eq_of_beq_eq_true h.1, Nat.eq_of_beq_eq_true h.2.1, same_eq h.2.2.1, same_eq h.2.2.2.1, same_eq h.2.2.2.2]
  · rw [Nat.eq_of_beq_eq_true h.1, Nat.eq_of_beq_eq_true h.2.1, Nat.eq_of_beq_eq_true h.2.2.1, same_eq h.2.2.2.1, Nat.eq_of_beq_eq_true h.2.2.2.2]
  · rw [same_eq h]
  · rw [Nat.eq_of_beq_eq_true h.1, Nat.eq_of_beq_eq_true h.2.1, same_eq h.2.2]
  · rw [same_eq h]
def sameCs : List C → List C → Bool
  | [], [] => true
  | a :: x, b :: y => sameC a b && sameCs x y
  | _, _ => false
theorem sameCs_eq : ∀ {a b : List C}, sameCs a b = true → a = b
  | [], [], _ => rfl
  | a :: x, b :: y, h => by
    simp only [sameCs, Bool.and_eq_true] at h
    rw [sameC_eq h.1, sameCs_eq h.2]
  | [], _ :: _, h => by simp [sameCs] at h
  | _ :: _, [], h => by simp [sameCs] at h
def sameV : V1 → V1 → Bool
  | .c x, .c y => sameC x y
  | .agg x, .agg y => sameCs x y
  | _, _ => false
theorem sameV_eq {x y : V1} (h : sameV x y = true) : x = y := by
  cases x <;> cases y <;> simp only [sameV] at h <;> first
    | rw [sameC_eq h]
    | rw [sameCs_eq h]
    | cases h
def sameVs : List V1 → List V1 → Bool
  | [], [] => true
  | a :: x, b :: y => sameV a b && sameVs x y
  | _, _ => false
theorem sameVs_eq : ∀ {a b : List V1}, sameVs a b = true → a = b
  | [], [], _ => rfl
  | a :: x, b :: y, h => by
    simp only [sameVs, Bool.and_eq_true] at h
    rw [sameV_eq h.1, sameVs_eq h.2]
  | [], _ :: _, h => by simp [sameVs] at h
  | _ :: _, [], h => by simp [sameVs] at h
def sameS : SV → SV → Bool
  | .one x, .one y => sameV x y
  | .tup x, .tup y => sameVs x y
  | .any a, .any b => Nat.beq a b
  | _, _ => false
theorem sameS_eq {x y : SV} (h : sameS x y = true) : x = y := by
  cases x <;> cases y <;> simp only [sameS] at h <;> first
    | rw [sameV_eq h]
    | rw [sameVs_eq h]
    | rw [Nat.eq_of_beq_eq_true h]
    | cases h
def sameT : List SV → List SV → Bool
  | [], [] => true
  | a :: x, b :: y => sameS a b && sameT x y
  | _, _ => false
theorem sameT_eq : ∀ {a b : List SV}, sameT a b = true → a = b
  | [], [], _ => rfl
  | a :: x, b :: y, h => by
    simp only [sameT, Bool.and_eq_true] at h
    rw [sameS_eq h.1, sameT_eq h.2]
  | [], _ :: _, h => by simp [sameT] at h
  | _ :: _, [], h => by simp [sameT] at h
def sameLv : List Kd → List Kd → Bool
  | [], [] => true
  | a :: x, b :: y => sameK a b && sameLv x y
  | _, _ => false
theorem sameLv_eq : ∀ {a b : List Kd}, sameLv a b = true → a = b
  | [], [], _ => rfl
  | a :: x, b :: y, h => by
    simp only [sameLv, Bool.and_eq_true] at h
    rw [sameK_eq h.1, sameLv_eq h.2]
  | [], _ :: _, h => by simp [sameLv] at h
  | _ :: _, [], h => by simp [sameLv] at h
def sameIns : List Ins → List Ins → Bool
  | [], [] => true
  | a :: x, b :: y => Nat.beq a.pos b.pos && (sameLv a.lv b.lv && (Nat.beq a.n b.n && (same a.t b.t && sameIns x y)))
  | _, _ => false
theorem sameIns_eq : ∀ {a b : List Ins}, sameIns a b = true → a = b
  | [], [], _ => rfl
  | ⟨p, l, n, t⟩ :: x, ⟨q, k, m, u⟩ :: y, h => by
    simp only [sameIns, Bool.and_eq_true] at h
    rw [Nat.eq_of_beq_eq_true h.1, sameLv_eq h.2.1, Nat.eq_of_beq_eq_true h.2.2.1, same_eq h.2.2.2.1, sameIns_eq h.2.2.2.2]
  | [], _ :: _, h => by simp [sameIns] at h
  | _ :: _, [], h => by simp [sameIns] at h
def sameX : Xt → Xt → Bool
  | .no, .no => true
  | .tab a s, .tab b t => sameLv a b && same s t
  | .arr a, .arr b => sameIns a b
  | .mp k a v s, .mp l b w t => sameLv k l && ((match a, b with | true, true => true | false, false => true | _, _ => false) && (sameK v w && same s t))
  | .own k s, .own l t => Nat.beq k l && same s t
  | .al s, .al t => same s t
  | _, _ => false
theorem sameX_eq {a b : Xt} (h : sameX a b = true) : a = b := by
  cases a <;> cases b <;> simp only [sameX, Bool.and_eq_true] at h <;> first
    | rfl
    | (cases h; done)
    | rw [sameLv_eq h.1, same_eq h.2]
    | rw [Nat.eq_of_beq_eq_true h.1, same_eq h.2]
    | rw [sameIns_eq h]
    | rw [same_eq h]
    | (rename_i a _ _ _ b _ _
       rw [sameLv_eq h.1, sameK_eq h.2.2.1, same_eq h.2.2.2]
       cases a <;> cases b <;> simp_all)
def sameBk (x y : Bk) : Bool := Nat.beq x.l y.l && (Nat.beq x.ty y.ty && (sameCs x.cs y.cs && ((match x.rw, y.rw with | true, true => true | false, false => true | _, _ => false) && ((match x.str, y.str with | some s, some t => same s t | none, none => true | _, _ => false) && sameX x.x y.x))))
theorem sameBk_eq {x y : Bk} (h : sameBk x y = true) : x = y := by
  obtain ⟨l, t, c, r, s, x⟩ := x
  obtain ⟨l', t', c', r', s', x'⟩ := y
  simp only [sameBk, Bool.and_eq_true] at h
  obtain ⟨h1, h2, h3, h4, h5, h6⟩ := h
  have e6 := sameX_eq h6
  subst e6
  have e5 : s = s' := by
    cases s <;> cases s' <;> simp only [] at h5 <;> first
      | rfl
      | (cases h5; done)
      | rw [same_eq h5]
  rw [Nat.eq_of_beq_eq_true h1, Nat.eq_of_beq_eq_true h2, sameCs_eq h3, e5]
  cases r <;> cases r' <;> simp_all
def sameH : List Bk → List Bk → Bool
  | [], [] => true
  | a :: x, b :: y => sameBk a b && sameH x y
  | _, _ => false
theorem sameH_eq : ∀ {a b : List Bk}, sameH a b = true → a = b
  | [], [], _ => rfl
  | a :: x, b :: y, h => by
    simp only [sameH, Bool.and_eq_true] at h
    rw [sameBk_eq h.1, sameH_eq h.2]
  | [], _ :: _, h => by simp [sameH] at h
  | _ :: _, [], h => by simp [sameH] at h
def subPc (a b : List Tm) : Bool := a.all fun t => isIn t b
def sameBd (x y : Bd) : Bool := same x.t y.t && (sameI x.lo y.lo && sameI x.hi y.hi)
theorem sameBd_eq {x y : Bd} (h : sameBd x y = true) : x = y := by
  obtain ⟨t, a, b⟩ := x
  obtain ⟨t', a', b'⟩ := y
  simp only [sameBd, Bool.and_eq_true] at h
  rw [same_eq h.1, sameI_eq h.2.1, sameI_eq h.2.2]
def subBs (a b : List Bd) : Bool := a.all fun x => b.any fun y => sameBd x y
/-- Whatever is described by d is described by k. -/
def covers (k d : St) : Bool := sameT k.tm d.tm && (sameH k.hp d.hp && (subPc k.cx.pc d.cx.pc && subBs k.cx.bs d.cx.bs))

section
variable {ρ : Env} {S : Nat → Prop} {w0 w : World} {β0 : Bn} {n0 : Nat} {s s' : St} {β : Bn} {a : Act}
theorem Md.covers (h : Md ρ S w0 β0 n0 s β a w) (hc : covers s' s = true) : Md ρ S w0 β0 n0 s' β a w := by
  simp only [Sy.covers, Bool.and_eq_true] at hc
  have e1 := sameT_eq hc.1
  have e2 := sameH_eq hc.2.1
  refine ⟨by rw [e1]; exact h.act, by rw [e2]; exact h.hp, by rw [e2]; exact h.ne, by rw [e2]; exact h.may, ⟨fun x hx => ?_, fun t ht => ?_⟩, h.only, h.old⟩
  · have := List.all_eq_true.1 hc.2.2.2 x hx
    obtain ⟨y, hy, e⟩ := List.any_eq_true.1 this
    rw [sameBd_eq e]
    exact h.cx.bs y hy
  · have := List.all_eq_true.1 hc.2.2.1 t ht
    exact h.cx.pc t (isIn_mem this)
end

/-! Leaves. -/
inductive Ex where
  | normal | exit (n : Nat) | ret
  deriving Repr, Inhabited
def Ex.to : Ex → Exit
  | .normal => .normal
  | .exit n => .exit n
  | .ret => .ret
/-- A leaf: something is to be shown; an end. -/
inductive Lf where
  | must (t : Tm) (s : St)
  | out (e : Ex) (s : St)
  deriving Repr, Inhabited
/-- Where a run stands still: why, and at which place of the text. -/
structure Er where
  why : String
  pos : String
abbrev Rs := Except Er (List Lf)
structure Bs where
  ρ : Env
  S : Nat → Prop
  w0 : World
  β0 : Bn
  n0 : Nat
abbrev Bs.Md (B : Bs) (s : St) (β : Bn) (a : Act) (w : World) : Prop := Sy.Md B.ρ B.S B.w0 B.β0 B.n0 s β a w
def Lf.ok (B : Bs) (Q : Exit → Act → World → Prop) : Lf → Prop
  | .must t s => ∀ β a w, B.Md s β a w → (den B.ρ t).b = true
  | .out e s => ∀ β a w, B.Md s β a w → Q e.to a w
def LOk (B : Bs) (Q : Exit → Act → World → Prop) (l : List Lf) : Prop := ∀ x ∈ l, x.ok B Q
theorem LOk.nil {B : Bs} {Q : Exit → Act → World → Prop} : LOk B Q [] := fun _ h => by cases h
theorem LOk.l {B : Bs} {Q : Exit → Act → World → Prop} {a b : List Lf} (h : LOk B Q (a ++ b)) : LOk B Q a := fun t ht => h t (List.mem_append_left _ ht)
theorem LOk.r {B : Bs} {Q : Exit → Act → World → Prop} {a b : List Lf} (h : LOk B Q (a ++ b)) : LOk B Q b := fun t ht => h t (List.mem_append_right _ ht)

def mustL (s : St) : List Tm → (St → Rs) → Rs
  | [], k => k s
  | t :: m, k => match mustL (s.learn t) m k with
    | .ok l => .ok (.must t s :: l)
    | .error e => .error e
def learnAll (s : St) : List Tm → St
  | [] => s
  | t :: m => learnAll (s.learn t) m
theorem mustL_ok {B : Bs} {Q : Exit → Act → World → Prop} {k : St → Rs} : ∀ {m : List Tm} {s : St} {r : List Lf}, mustL s m k = .ok r → LOk B Q r → ∀ {β : Bn} {a : Act} {w : World}, B.Md s β a w →
    Met B.ρ m ∧ B.Md (learnAll s m) β a w ∧ ∃ r', k (learnAll s m) = .ok r' ∧ LOk B Q r'
  | [], s, r, h, hl, β, a, w, hM => ⟨fun _ h => (by cases h), hM, r, h, hl⟩
  | t :: m, s, r, h, hl, β, a, w, hM => by
    simp only [mustL] at h
    split at h
    · rename_i l hq
      injection h with h
      subst h
      have ht : (den B.ρ t).b = true := hl _ (List.mem_cons_self ..) β a w hM
      have ih := mustL_ok (Q := Q) hq (fun x hx => hl x (List.mem_cons_of_mem _ hx)) (hM.learn ht)
      refine ⟨fun u hu => ?_, ih.2.1, ih.2.2⟩
      rcases List.mem_cons.1 hu with rfl | hu
      · exact ht
      · exact ih.1 u hu
    · cases h
def bindL : List Lf → (Ex → St → Rs) → Rs
  | [], _ => .ok []
  | .must t s :: l, f => match bindL l f with
    | .ok r => .ok (.must t s :: r)
    | .error e => .error e
  | .out e s :: l, f => match f e s with
    | .ok a => match bindL l f with
      | .ok b => .ok (a ++ b)
      | .error e => .error e
    | .error e => .error e
theorem bindL_ok {B B' : Bs} (hρ : B'.ρ = B.ρ) {Q Q' : Exit → Act → World → Prop} {f : Ex → St → Rs} (hmd : ∀ s β a w, B'.Md s β a w → ∃ β a, B.Md s β a w)
    (hf : ∀ e s r, f e s = .ok r → LOk B Q r → ∀ β a w, B'.Md s β a w → Q' e.to a w) : ∀ {l r : List Lf}, bindL l f = .ok r → LOk B Q r → LOk B' Q' l
  | [], r, _, _ => LOk.nil
  | .must t s :: l, r, h, hl => by
    simp only [bindL] at h
    split at h
    · rename_i r' hq
      injection h with h
      subst h
      intro x hx
      rcases List.mem_cons.1 hx with rfl | hx
      · intro β a w hM
        obtain ⟨β', a', hM'⟩ := hmd s β a w hM
        rw [hρ]
        exact hl _ (List.mem_cons_self ..) β' a' w hM'
      · exact bindL_ok hρ hmd hf hq (fun x hx => hl x (List.mem_cons_of_mem _ hx)) x hx
    · cases h
  | .out e s :: l, r, h, hl => by
    simp only [bindL] at h
    split at h
    · rename_i a' ha
      split at h
      · rename_i b hb
        injection h with h
        subst h
        intro x hx
        rcases List.mem_cons.1 hx with rfl | hx
        · intro β a w hM
          exact hf e s a' ha hl.l β a w hM
        · exact bindL_ok hρ hmd hf hb hl.r x hx
      · cases h
    · cases h
def bindR (r : Rs) (f : Ex → St → Rs) : Rs :=
  match r with
  | .ok l => bindL l f
  | .error e => .error e
theorem bindR_ok {r : Rs} {f : Ex → St → Rs} {l : List Lf} (h : bindR r f = .ok l) : ∃ l', r = .ok l' ∧ bindL l' f = .ok l := by
  unfold bindR at h
  split at h
  · exact ⟨_, rfl, h⟩
  · cases h
def appR (a b : Rs) : Rs :=
  match a with
  | .ok x => match b with
    | .ok y => .ok (x ++ y)
    | .error e => .error e
  | .error e => .error e
theorem appR_ok {a b : Rs} {l : List Lf} (h : appR a b = .ok l) : ∃ x y, a = .ok x ∧ b = .ok y ∧ l = x ++ y := by
  unfold appR at h
  split at h
  · split at h
    · injection h with h
      exact ⟨_, _, rfl, rfl, h.symm⟩
    · cases h
  · cases h
/-- Ends that are the same are kept once. -/
def Ex.same : Ex → Ex → Bool
  | .normal, .normal => true
  | .exit a, .exit b => Nat.beq a b
  | .ret, .ret => true
  | _, _ => false
theorem Ex.same_eq {a b : Ex} (h : a.same b = true) : a = b := by
  cases a <;> cases b <;> simp only [Ex.same] at h <;> first
    | rfl
    | (cases h; done)
    | rw [Nat.eq_of_beq_eq_true h]
def Lf.cov : Lf → Lf → Bool
  | .out e s, .out f t => e.same f && Sy.covers s t
  | .must t s, .must u v => Sy.same t u && Sy.covers s v
  | _, _ => false
def ddL : List Lf → List Lf
  | [] => []
  | x :: l => if (ddL l).any fun y => y.cov x then ddL l else x :: ddL l
theorem ddL_ok {B : Bs} {Q : Exit → Act → World → Prop} : ∀ {l : List Lf}, LOk B Q (ddL l) → LOk B Q l
  | [], _ => LOk.nil
  | x :: l, h => by
    unfold ddL at h
    split at h
    · rename_i q
      intro z hz
      rcases List.mem_cons.1 hz with rfl | hz
      · obtain ⟨y, hy, e⟩ := List.any_eq_true.1 q
        have hy := h y hy
        cases y <;> cases z <;> simp only [Lf.cov, Bool.and_eq_true] at e <;> try (cases e; done)
        · intro β a w hM
          have := hy β a w (hM.covers e.2)
          rwa [same_eq e.1] at this
        · intro β a w hM
          have := hy β a w (hM.covers e.2)
          rwa [Ex.same_eq e.1] at this
      · exact ddL_ok h z hz
    · intro z hz
      rcases List.mem_cons.1 hz with rfl | hz
      · exact h _ (List.mem_cons_self ..)
      · exact ddL_ok (fun x hx => h x (List.mem_cons_of_mem _ hx)) z hz

/-! Letters below a bound. -/
def C.lt (n : Nat) : C → Bool
  | .ptr l _ => Nat.blt l n
  | .slc l _ _ _ => Nat.blt l n
  | .ptx l _ => Nat.blt l n
  | .slr l _ _ _ => Nat.blt l n && Nat.blt (l + 1) n
  | .map l => Nat.blt l n
  | .fn _ ls => ls.all fun l => Nat.blt l n
  | .slt l _ _ _ _ => Nat.blt l n && Nat.blt (l + 1) n
  | .pta l _ _ _ _ => Nat.blt l n
  | .slz l _ _ => Nat.blt l n && Nat.blt (l + 1) n
  | _ => true
def ltL (n : Nat) (l : List C) : Bool := l.all (C.lt n)
def V1.lt (n : Nat) : V1 → Bool
  | .c x => x.lt n
  | .agg l => ltL n l
def SV.lt (n : Nat) : SV → Bool
  | .one x => x.lt n
  | .tup l => l.all (V1.lt n)
  | .any _ => true
theorem blt_lt {a b : Nat} (h : Nat.blt a b = true) : a < b := Nat.le_of_ble_eq_true h
theorem C.den_agree (ρ : Env) {β β' : Bn} {n : Nat} (h : ∀ l, l < n → β' l = β l) {x : C} (hx : x.lt n = true) : x.den ρ β' = x.den ρ β := by
  cases x with
  | ptr l off => simp only [C.den]; rw [h l (blt_lt hx)]
  | slc l off a b => simp only [C.den]; rw [h l (blt_lt hx)]
  | ptx l off => simp only [C.den]; rw [h l (blt_lt hx)]
  | slr l off a an =>
    simp only [C.lt, Bool.and_eq_true] at hx
    simp only [C.den]
    rw [h l (blt_lt hx.1), h (l + 1) (blt_lt hx.2)]
  | map l => simp only [C.den]; rw [h l (blt_lt hx)]
  | pta l _ _ _ _ => simp only [C.den]; rw [h l (blt_lt hx)]
  | slt l m off a an =>
    simp only [C.lt, Bool.and_eq_true] at hx
    simp only [C.den]
    rw [h l (blt_lt hx.1), h (l + 1) (blt_lt hx.2)]
  | slz l m x =>
    simp only [C.lt, Bool.and_eq_true] at hx
    simp only [C.den]
    rw [h l (blt_lt hx.1), h (l + 1) (blt_lt hx.2)]
  | fn f ls =>
    simp only [C.den]
    congr 2
    apply List.map_congr_left
    intro l hl
    rw [h l (blt_lt (List.all_eq_true.1 hx l hl))]
  | _ => rfl
theorem denL_agree (ρ : Env) {β β' : Bn} {n : Nat} (h : ∀ l, l < n → β' l = β l) {l : List C} (hl : ltL n l = true) : denL ρ β' l = denL ρ β l := by
  apply List.map_congr_left
  intro x hx
  exact C.den_agree ρ h (List.all_eq_true.1 hl x hx)
theorem V1.den_agree (ρ : Env) {β β' : Bn} {n : Nat} (h : ∀ l, l < n → β' l = β l) {x : V1} (hx : x.lt n = true) : x.den ρ β' = x.den ρ β := by
  cases x with
  | c x => exact C.den_agree ρ h hx
  | agg l => simp only [V1.den]; rw [denL_agree ρ h hx]
theorem SV.den_agree (ρ : Env) {β β' : Bn} {n : Nat} (h : ∀ l, l < n → β' l = β l) {x : SV} (hx : x.lt n = true) : x.den ρ β' = x.den ρ β := by
  cases x with
  | one x => exact V1.den_agree ρ h hx
  | tup l =>
    simp only [SV.den]
    congr 2
    apply List.map_congr_left
    intro x hm
    exact V1.den_agree ρ h (List.all_eq_true.1 hx x hm)
  | any n => rfl

/-! Results. -/
theorem loadS_var {ρ : Env} {β : Bn} {P : Program} {c : Cx} (hc : c.ok ρ) {hp : List Bk} {t : TypeId} {x : SV} {v : V1} (h : loadS P c hp t x = some v) {w : World} (hb : ∀ b ∈ hp, BkOk ρ β w b) :
    ∃ ad, x.den ρ β = .pointer (some ad) ∧ (loadVar t ad).run P w = .ok (v.den ρ β) w := by
  have h1 := loadS_ok (β := β) hc h hb
  unfold loadS at h
  split at h
  · rename_i l off
    refine ⟨⟨β l, off, none⟩, rfl, ?_⟩
    have e : (Instr.loadAt t (SV.den ρ β (.one (.c (.ptr l off))))).run P w = (loadVar t ⟨β l, off, none⟩).run P w := by
      show (Instr.loadAt t (.pointer (some ⟨β l, off, none⟩))).run P w = _
      simp only [Instr.loadAt, Instr.sureAddr, Sem.run_bind, Sem.run_pure, Result.andThen_ok]
    rw [← e]
    exact h1
  · rename_i l off
    refine ⟨⟨β l, (Sy.den ρ off).i.toNat, none⟩, rfl, ?_⟩
    have e : (Instr.loadAt t (SV.den ρ β (.one (.c (.ptx l off))))).run P w = (loadVar t ⟨β l, (Sy.den ρ off).i.toNat, none⟩).run P w := by
      show (Instr.loadAt t (.pointer (some ⟨β l, (Sy.den ρ off).i.toNat, none⟩))).run P w = _
      simp only [Instr.loadAt, Instr.sureAddr, Sem.run_bind, Sem.run_pure, Result.andThen_ok]
    rw [← e]
    exact h1
  · cases h
def resOne (P : Program) (s : St) : ResultVar → Option SV
  | .tmp t => s.tm[t]?
  | .cell a t => match s.tm[a]? with
    | some x => (loadS P s.cx s.hp t x).map .one
    | none => none
def resMany (P : Program) (s : St) : List ResultVar → Option (List V1)
  | [] => some []
  | r :: rs => match resOne P s r, resMany P s rs with
    | some (.one v), some vs => some (v :: vs)
    | _, _ => none
def retS (P : Program) (s : St) (rs : List ResultVar) : Option SV :=
  match rs with
  | [r] => resOne P s r
  | rs => (resMany P s rs).map .tup
section
variable {ρ : Env} {S : Nat → Prop} {w0 w : World} {β0 : Bn} {n0 : Nat} {s s' : St} {β : Bn} {a : Act} {P : Program}
def resSem (tmps : Array Value) : ResultVar → Sem Value
  | .tmp t => pure (tmps.getD t undef)
  | .cell a t => do loadVar t (← asAddr (tmps.getD a undef))
theorem resOne_ok (h : Md ρ S w0 β0 n0 s β a w) {r : ResultVar} {v : SV} (hr : resOne P s r = some v) : (resSem a.tmps r).run P w = .ok (v.den ρ β) w := by
  cases r with
  | tmp t =>
    have := h.opd (x := .tmp t) (show opd s.tm (.tmp t) = some v from hr)
    show Result.ok (a.tmps.getD t undef) w = _
    rw [← this]
    rfl
  | cell ad t =>
    simp only [resOne] at hr
    split at hr
    · rename_i x hx
      have h1 := h.opd (x := .tmp ad) (show opd s.tm (.tmp ad) = some x from hx)
      cases hl : loadS P s.cx s.hp t x with
      | none => rw [hl] at hr; cases hr
      | some u =>
        rw [hl] at hr
        injection hr with hr
        subst hr
        obtain ⟨p, hp1, hp2⟩ := loadS_var (ρ := ρ) (β := β) h.cx hl h.hp
        have h2 : a.tmps.getD ad undef = .pointer (some p) := by rw [← hp1, ← h1]; rfl
        simp only [resSem, h2, asAddr, Sem.run_bind, Sem.run_pure, Result.andThen_ok, hp2]
        rfl
    · cases hr
theorem resMany_ok (h : Md ρ S w0 β0 n0 s β a w) : ∀ {rs : List ResultVar} {vs : List V1}, resMany P s rs = some vs → (rs.mapM (resSem a.tmps)).run P w = .ok (vs.map (V1.den ρ β)) w
  | [], vs, hr => by injection hr with hr; subst hr; rfl
  | r :: rs, vs, hr => by
    simp only [resMany] at hr
    split at hr
    · rename_i v us h1 h2
      injection hr with hr
      subst hr
      have e1 := resOne_ok h h1
      have e2 := resMany_ok h h2
      simp only [List.mapM_cons, Sem.run_bind, e1, e2, Result.andThen_ok, Sem.run_pure]
      rfl
    · cases hr
theorem retS_ok {fn : Func} (h : Md ρ S w0 β0 n0 s β a w) {v : SV} (hr : retS P s fn.results.toList = some v) : (results fn a.tmps).run P w = .ok (v.den ρ β) w := by
  have e : (results fn a.tmps).run P w = ((fn.results.toList.mapM (resSem a.tmps)).run P w).andThen fun vs w => .ok (if h : vs.length = 1 then vs[0] else .tuple vs.toArray) w := by
    have e0 : results fn a.tmps = (do let vs ← fn.results.mapM (resSem a.tmps); pure (if h : vs.size = 1 then vs[0] else .tuple vs)) := by
      unfold results
      congr 1
    rw [e0]
    simp only [Sem.run_bind, Array.mapM_eq_mapM_toList]
    cases hm : (fn.results.toList.mapM (resSem a.tmps)).run P w with
    | halt x w => simp [Result.andThen, hm]
    | ok vs w => simp [Result.andThen, hm]
  rw [e]
  unfold retS at hr
  split at hr
  · rename_i r hrs
    rw [hrs]
    have e1 := resOne_ok h hr
    simp only [List.mapM_cons, List.mapM_nil, Sem.run_bind, e1, Result.andThen_ok, Sem.run_pure]
    rfl
  · rename_i rs hne
    cases hm : resMany P s fn.results.toList with
    | none => rw [hm] at hr; cases hr
    | some vs =>
      rw [hm] at hr
      injection hr with hr
      subst hr
      have e1 := resMany_ok h hm
      rw [e1]
      have hl : ∀ {rs : List ResultVar} {vs : List V1}, resMany P s rs = some vs → vs.length = rs.length := by
        intro rs
        induction rs with
        | nil => intro vs h; injection h with h; subst h; rfl
        | cons r rs ih =>
          intro vs h
          simp only [resMany] at h
          split at h
          · rename_i v us h1 h2
            injection h with h
            subst h
            simp [ih h2]
          · cases h
      have h1 : (vs.map (V1.den ρ β)).length ≠ 1 := by
        rw [List.length_map, hl hm]
        intro e
        obtain ⟨r, hr⟩ := List.length_eq_one_iff.1 e
        exact hne r hr
      simp only [Result.andThen_ok, h1, dite_false]
      rfl
end
/-! Slices built of their elements. -/
def baseS (zs : List C) : Nat → List C
  | 0 => []
  | n + 1 => zs ++ baseS zs n
theorem baseS_len (zs : List C) : ∀ n, (baseS zs n).length = n * zs.length
  | 0 => by simp [baseS]
  | n + 1 => by rw [baseS, List.length_append, baseS_len zs n, Nat.succ_mul, Nat.add_comm]
theorem baseS_get (zs : List C) : ∀ (n k : Nat), k < n * zs.length → (baseS zs n)[k]? = zs[k % zs.length]?
  | 0, k, h => by simp at h
  | n + 1, k, h => by
    rw [baseS]
    rcases Nat.lt_or_ge k zs.length with h1 | h1
    · rw [List.getElem?_append_left h1, Nat.mod_eq_of_lt h1]
    · rw [List.getElem?_append_right h1, baseS_get zs n (k - zs.length) (by rw [Nat.succ_mul] at h; omega), Nat.mod_eq_sub_mod h1]
theorem baseS_ok (ρ : Env) (β : Bn) (zs : List C) (n : Nat) : (Array.range (n * zs.length)).map (fun k => (denL ρ β zs).toArray[k % (denL ρ β zs).toArray.size]!) = (denL ρ β (baseS zs n)).toArray := by
  apply Array.ext
  · simp [denL_len, baseS_len]
  · intro k h1 h2
    have hk : k < n * zs.length := by simpa using h1
    have hm : k % zs.length < zs.length := Nat.mod_lt _ (by
      rcases Nat.eq_zero_or_pos zs.length with h0 | h0
      · rw [h0] at hk; simp at hk
      · exact h0)
    have hg := baseS_get zs n k hk
    have hlt : k < (baseS zs n).length := by rw [baseS_len]; exact hk
    rw [List.getElem?_eq_getElem hlt, List.getElem?_eq_getElem hm] at hg
    injection hg with hg
    have hm' : k % (denL ρ β zs).toArray.size < (denL ρ β zs).toArray.size := by simpa [denL_len] using hm
    rw [Array.getElem_map, Array.getElem_range]
    rw [getElem!_pos (denL ρ β zs).toArray (k % (denL ρ β zs).toArray.size) hm']
    simp only [denL, List.getElem_toArray, List.getElem_map, hg, List.size_toArray, List.length_map]
def rowS (P : Program) (t : TypeId) (len : Nat) (parts : List (Nat × V1)) : Option (TypeId × List C) :=
  match P.underlying t with
  | some (.slice e) =>
    match P.info? e, zeroS P e with
    | some i, some zs =>
      if Nat.beq zs.length i.size && (Nat.ble 1 (len * i.size) && Nat.ble (len * i.size) 16777216) then
        (fillS (fun k => some (k * i.size, i.size)) (baseS zs len) parts).map fun cs => (e, cs)
      else none
    | _, _ => none
  | _ => none
theorem rowS_ok {ρ : Env} (hρ : ρ.good) {β : Bn} {P : Program} {t e : TypeId} {len : Nat} {parts : List (Nat × V1)} {cs : List C} (h : rowS P t len parts = some (e, cs)) (w : World) :
    (Instr.buildSlice t len (parts.map fun p => (p.1, p.2.den ρ β)).toArray).run P w = .ok (.slice (some ⟨w.heap.size, 0, none⟩) len len) (w.alloc (.cells (denL ρ β cs).toArray e)) := by
  unfold rowS at h
  split at h
  · rename_i e' hu
    split at h
    · rename_i i zs hi hz
      split at h
      · rename_i q
        simp only [Bool.and_eq_true] at q
        have q1 := Nat.eq_of_beq_eq_true q.1
        have q2 := Nat.le_of_ble_eq_true q.2.1
        have q3 := Nat.le_of_ble_eq_true q.2.2
        cases hf : fillS (fun k => some (k * i.size, i.size)) (baseS zs len) parts with
        | none => rw [hf] at h; cases h
        | some cs' =>
          rw [hf] at h
          injection h with h
          injection h with h1 h2
          subst h1 h2
          have hfill := fillS_ok hρ (β := β) hf
          rw [← baseS_ok] at hfill
          unfold zeroS at hz
          rw [hi] at hz
          dsimp only at hz
          cases hzv : i.zero with
          | none => rw [hzv] at hz; cases hz
          | some z =>
            rw [hzv] at hz
            have hzc := ofCs_ok (ρ := ρ) (β := β) hz
            have hzt : z.cells = (denL ρ β zs).toArray := by rw [hzc]
            have n1 : ¬ (len * i.size > 2 ^ 24) := by omega
            have n2 : ¬ (len * i.size = 0) := by omega
            simp only [Instr.buildSlice, Sem.run_bind, run_underlying hu, Result.andThen_ok, sizeOf, zeroValue, typeInfo, run_program, hi, hzv, Sem.run_pure, n1, n2, if_false, hzt]
            rw [q1] at hfill
            simp only [hfill, Sem.run_bind, Sem.run_pure, Result.andThen_ok]
            rfl
      · cases h
    · cases h
  · cases h
end Sy
end Go.Proofs.Ytnmfmjlpfhdgeaa
