/- Rounds over a slice of structs that came in: the row is taken by hand, the rest of the round is run with letters. -/
import Derived.Test.YtnmfmjlpfhdgeaaSyP
import Derived.Deep.MidRow
import Derived.Test.YtnmfmjlpfhdgeaaLeaf
namespace Go.Proofs.Ytnmfmjlpfhdgeaa
namespace Sy
open Go Go.RowKit
set_option linter.unusedVariables false
set_option linter.unusedSimpArgs false

/-! Letters that a frame does not have get new meanings. -/
def noLs : List As → Bool
  | [] => true
  | .l _ _ :: _ => false
  | _ :: l => noLs l
theorem noLs_ok : ∀ {l : List As}, noLs l = true → ∀ n, rnL l n = n
  | [], _, _ => rfl
  | .l _ _ :: _, h, _ => by cases h
  | .i _ _ :: l, h, n => noLs_ok (l := l) h n
  | .b _ _ :: l, h, n => noLs_ok (l := l) h n
  | .s _ _ :: l, h, n => noLs_ok (l := l) h n
  | .c _ _ :: l, h, n => noLs_ok (l := l) h n
  | .u _ _ :: l, h, n => noLs_ok (l := l) h n
theorem Md.set {ρ : Env} {S : Nat → Prop} {w0 : World} {β0 : Bn} {n0 : Nat} {s : St} {β : Bn} {a : Act} {w : World} (hM : Md ρ S w0 β0 n0 s β a w) (l : List As) (hl : noLs l = true) (ht : subT l s.tm = some s.tm) (hb : ∀ b ∈ s.hp, subBk l b = some b) (hc : s.cx.ok (ρ.sub β l)) : Md (ρ.sub β l) S w0 β0 n0 s β a w := by
  have hbn : bnL l β = β := by
    funext n
    unfold bnL
    rw [noLs_ok hl]
  refine ⟨?_, fun b hb' => ?_, hM.ne, hM.may, hc, hM.only, hM.old⟩
  · have := subT_ok (ρ := ρ) (β := β) ht
    rw [hbn] at this
    rw [hM.act, this]
  · have := (subBk_ok (ρ := ρ) (β := β) (w := w) (hb b hb')).2.2.2.2.1 (hM.hp b hb')
    rwa [hbn] at this
theorem den_u (ρ : Env) (u : Nat → Value) (t : Tm) : den { ρ with u := u } t = den ρ t := by
  induction t <;> simp_all [den]
theorem C.den_u (ρ : Env) (u : Nat → Value) (β : Bn) (x : C) : x.den { ρ with u := u } β = x.den ρ β := by
  cases x <;> simp only [C.den, Sy.den_u]
theorem denL_u (ρ : Env) (u : Nat → Value) (β : Bn) (l : List C) : denL { ρ with u := u } β l = denL ρ β l := List.map_congr_left fun x _ => C.den_u ρ u β x
theorem V1.den_u (ρ : Env) (u : Nat → Value) (β : Bn) (x : V1) : x.den { ρ with u := u } β = x.den ρ β := by
  cases x with
  | c x => exact C.den_u ρ u β x
  | agg l => simp only [V1.den, denL_u]
theorem BkOk.u {ρ : Env} {β : Bn} {w : World} {b : Bk} (h : BkOk ρ β w b) (u : Nat → Value) : BkOk { ρ with u := u } β w b := by
  unfold BkOk at h ⊢
  have lay : ∀ (ins : List Ins) (cs : List Value), layV { ρ with u := u } cs ins = layV ρ cs ins := by
    intro ins
    induction ins with
    | nil => intro cs; rfl
    | cons x l ih => intro cs; simp only [layV, Sy.den_u, ih]
  cases hs : b.str with
  | none =>
    rw [hs] at h
    cases hx : b.x with
    | no => rw [hx] at h; simp only [] at h ⊢; rw [denL_u]; exact h
    | tab lv t => rw [hx] at h; simp only [] at h ⊢; rw [Sy.den_u]; exact h
    | arr ins => rw [hx] at h; simp only [] at h ⊢; rw [denL_u, lay]; exact ⟨h.1, fun x hx => by rw [Sy.den_u]; exact h.2 x hx⟩
    | mp ks ag v t => rw [hx] at h; simp only [] at h ⊢; rw [Sy.den_u]; exact h
    | own k t => rw [hx] at h; simp only [] at h ⊢; rw [Sy.den_u]; exact h
    | al t => rw [hx] at h; simp only [] at h ⊢; rw [Sy.den_u, denL_u]; exact h
  | some s => rw [hs] at h; simp only [] at h ⊢; rw [den_u]; exact h
/-- Letter m is not among the values of any kind. -/
def noAny (m : Nat) (l : List SV) : Bool := l.all fun x => match x with
  | .any k => !(Nat.beq k m)
  | _ => true
theorem Md.setU {ρ : Env} {S : Nat → Prop} {w0 : World} {β0 : Bn} {n0 : Nat} {s : St} {β : Bn} {a : Act} {w : World} (hM : Md ρ S w0 β0 n0 s β a w) (m : Nat) (v : Value) (h : noAny m s.tm = true) : Md { ρ with u := fun n => if n = m then v else ρ.u n } S w0 β0 n0 s β a w := by
  refine ⟨?_, fun b hb => (hM.hp b hb).u _, hM.ne, hM.may, ⟨fun x hx => ?_, fun t ht => ?_⟩, hM.only, hM.old⟩
  · rw [hM.act]
    congr 2
    apply List.map_congr_left
    intro x hx
    have := List.all_eq_true.1 h x hx
    cases x with
    | one x => exact (V1.den_u ρ _ β x).symm
    | tup l =>
      simp only [SV.den]
      congr 2
      apply List.map_congr_left
      intro x _
      exact (V1.den_u ρ _ β x).symm
    | any k =>
      show ρ.u k = if k = m then v else ρ.u k
      rw [if_neg (fun e => by simp only [e, Nat.beq_refl, Bool.not_true] at this; cases this)]
  · have := hM.cx.bs x hx
    unfold Bd.ok at *
    simp only [den_u]
    exact this
  · rw [den_u]
    exact hM.cx.pc t ht

/-! Letters from h on. -/
def lowT (h : Nat) : Tm → Bool
  | .iv n | .bv n | .sv n => Nat.blt n h
  | .cv _ => true
  | .add x y | .sub x y | .mul x y | .dv x y | .md x y | .quo x y | .rem x y | .bop _ _ x y | .byte x y | .lt x y | .le x y | .eq x y | .and x y | .or x y | .seq x y | .bq x y | .app x y => lowT h x && lowT h y
  | .pw x | .wrap _ x | .len x | .not x | .chr x => lowT h x
  | .ap _ x y z | .ite x y z | .cut x y z | .tb _ x y z => lowT h x && (lowT h y && lowT h z)
  | .il _ | .bl _ | .sl _ => true
def intAt (cs : List Value) (n : Nat) : Int := match cs[n]? with | some (.int _ z) => z | _ => 0
def boolAt (cs : List Value) (n : Nat) : Bool := match cs[n]? with | some (.bool z) => z | _ => false
def strAt (cs : List Value) (n : Nat) : ByteArray := match cs[n]? with | some (.string z) => z | _ => none8
/-- The letters from h on stand for the cells of a row. -/
def Env.hi (ρ : Env) (h : Nat) (cs : List Value) : Env where
  i := fun n => if n < h then ρ.i n else intAt cs (n - h)
  b := fun n => if n < h then ρ.b n else boolAt cs (n - h)
  s := fun n => if n < h then ρ.s n else strAt cs (n - h)
  f := ρ.f
  v := ρ.v
  u := ρ.u
  c := ρ.c
  o := ρ.o
theorem lowT_ok (ρ : Env) (h : Nat) (cs : List Value) : ∀ t : Tm, lowT h t = true → den (ρ.hi h cs) t = den ρ t := by
  intro t
  induction t with
  | iv n => intro hl; simp only [den, Env.hi, if_pos (blt_lt hl)]
  | bv n => intro hl; simp only [den, Env.hi, if_pos (blt_lt hl)]
  | sv n => intro hl; simp only [den, Env.hi, if_pos (blt_lt hl)]
  | cv n => intro _; rfl
  | tb o x y z hx hy hz =>
    intro hl
    simp only [lowT, Bool.and_eq_true] at hl
    simp only [den, hx hl.1, hy hl.2.1, hz hl.2.2]
  | ap f x y z hx hy hz =>
    intro hl
    simp only [lowT, Bool.and_eq_true] at hl
    show (ρ.hi h cs).f f (den _ x) (den _ y) (den _ z) = _
    rw [hx hl.1, hy hl.2.1, hz hl.2.2]
    rfl
  | ite x y z hx hy hz =>
    intro hl
    simp only [lowT, Bool.and_eq_true] at hl
    simp only [den, hx hl.1, hy hl.2.1, hz hl.2.2]
  | cut x y z hx hy hz =>
    intro hl
    simp only [lowT, Bool.and_eq_true] at hl
    simp only [den, hx hl.1, hy hl.2.1, hz hl.2.2]
  | pw x hx => intro hl; simp only [den, hx hl]
  | wrap k x hx => intro hl; simp only [den, hx hl]
  | len x hx => intro hl; simp only [den, hx hl]
  | not x hx => intro hl; simp only [den, hx hl]
  | chr x hx => intro hl; simp only [den, hx hl]
  | il n => intro _; rfl
  | bl n => intro _; rfl
  | sl n => intro _; rfl
  | _ =>
    rename_i hx hy
    intro hl
    simp only [lowT, Bool.and_eq_true] at hl
    simp only [den, hx hl.1, hy hl.2]
def lowC (h : Nat) : C → Bool
  | .int _ t | .bool t | .str t => lowT h t
  | .slc _ _ a b => lowT h a && lowT h b
  | .slr _ a b c => lowT h a && (lowT h b && lowT h c)
  | .ptx _ a => lowT h a
  | .slt _ _ a b c => lowT h a && (lowT h b && lowT h c)
  | .pta _ _ _ a _ => lowT h a
  | .ptv a => lowT h a
  | .vls a => lowT h a
  | .slz _ _ a => lowT h a
  | _ => true
theorem lowC_ok {ρ : Env} {β : Bn} {h : Nat} {cs : List Value} {x : C} (hl : lowC h x = true) : x.den (ρ.hi h cs) β = x.den ρ β := by
  cases x <;> simp only [lowC, Bool.and_eq_true] at hl <;> simp only [C.den] <;> first
    | rfl
    | rw [lowT_ok ρ h cs _ hl]
    | rw [lowT_ok ρ h cs _ hl.1, lowT_ok ρ h cs _ hl.2]
    | rw [lowT_ok ρ h cs _ hl.1, lowT_ok ρ h cs _ hl.2.1, lowT_ok ρ h cs _ hl.2.2]
def lowCs (h : Nat) (l : List C) : Bool := l.all (lowC h)
theorem lowCs_ok {ρ : Env} {β : Bn} {h : Nat} {cs : List Value} {l : List C} (hl : lowCs h l = true) : denL (ρ.hi h cs) β l = denL ρ β l := List.map_congr_left fun x hx => lowC_ok (List.all_eq_true.1 hl x hx)
def lowV (h : Nat) : V1 → Bool
  | .c x => lowC h x
  | .agg l => lowCs h l
theorem lowV_ok {ρ : Env} {β : Bn} {h : Nat} {cs : List Value} {x : V1} (hl : lowV h x = true) : x.den (ρ.hi h cs) β = x.den ρ β := by
  cases x with
  | c x => exact lowC_ok hl
  | agg l => simp only [V1.den]; rw [lowCs_ok hl]
def lowSV (h : Nat) : SV → Bool
  | .one x => lowV h x
  | .tup l => l.all (lowV h)
  | .any _ => true
theorem lowSV_ok {ρ : Env} {β : Bn} {h : Nat} {cs : List Value} {x : SV} (hl : lowSV h x = true) : x.den (ρ.hi h cs) β = x.den ρ β := by
  cases x with
  | one x => exact lowV_ok hl
  | tup l =>
    simp only [SV.den]
    congr 2
    apply List.map_congr_left
    intro x hx
    exact lowV_ok (List.all_eq_true.1 hl x hx)
  | any n => rfl
def lowX (h : Nat) : Xt → Bool
  | .no => true
  | .tab _ t => lowT h t
  | .arr ins => ins.all fun x => lowT h x.t
  | .mp _ _ _ t => lowT h t
  | .own _ t => lowT h t
  | .al t => lowT h t
theorem layV_hi {ρ : Env} {h : Nat} {vs : List Value} : ∀ {ins : List Ins}, (ins.all fun x => lowT h x.t) = true → ∀ cs, layV (ρ.hi h vs) cs ins = layV ρ cs ins
  | [], _, _ => rfl
  | x :: l, hl, cs => by
    simp only [List.all_cons, Bool.and_eq_true] at hl
    simp only [layV, lowT_ok ρ h vs _ hl.1, layV_hi hl.2]
def lowSt (h : Nat) (s : St) : Bool := s.tm.all (lowSV h) && (s.hp.all (fun b => lowCs h b.cs && ((match b.str with | some t => lowT h t | none => true) && lowX h b.x)) && (s.cx.bs.all (fun b => lowT h b.t) && s.cx.pc.all (lowT h)))
theorem Md.hi {ρ : Env} {S : Nat → Prop} {w0 : World} {β0 : Bn} {n0 : Nat} {s : St} {β : Bn} {a : Act} {w : World} (hM : Md ρ S w0 β0 n0 s β a w) (h : Nat) (cs : List Value) (hl : lowSt h s = true) : Md (ρ.hi h cs) S w0 β0 n0 s β a w := by
  unfold lowSt at hl
  simp only [Bool.and_eq_true] at hl
  obtain ⟨h1, h2, h3, h4⟩ := hl
  refine ⟨?_, fun b hb => ?_, hM.ne, hM.may, ⟨fun x hx => ?_, fun t ht => ?_⟩, hM.only, hM.old⟩
  · rw [hM.act]
    congr 2
    exact List.map_congr_left fun x hx => (lowSV_ok (List.all_eq_true.1 h1 x hx)).symm
  · have hb2 := List.all_eq_true.1 h2 b hb
    have hB := hM.hp b hb
    unfold BkOk at hB ⊢
    cases hs : b.str with
    | none =>
      rw [hs] at hB hb2
      simp only [Bool.and_eq_true, true_and] at hB hb2 ⊢
      cases hx : b.x with
      | no =>
        rw [hx] at hB
        simp only [] at hB ⊢
        rw [lowCs_ok hb2.1]
        exact hB
      | tab lv t =>
        rw [hx] at hB hb2
        simp only [lowX] at hB hb2 ⊢
        rw [lowT_ok _ _ _ _ hb2.2]
        exact hB
      | arr ins =>
        rw [hx] at hB hb2
        simp only [lowX] at hB hb2 ⊢
        rw [lowCs_ok hb2.1, layV_hi hb2.2]
        exact ⟨hB.1, fun x hx => by rw [lowT_ok _ _ _ _ (List.all_eq_true.1 hb2.2 x hx)]; exact hB.2 x hx⟩
      | mp ks ag v t =>
        rw [hx] at hB hb2
        simp only [lowX] at hB hb2 ⊢
        rw [lowT_ok _ _ _ _ hb2.2]
        exact hB
      | own k t =>
        rw [hx] at hB hb2
        simp only [lowX] at hB hb2 ⊢
        rw [lowT_ok _ _ _ _ hb2.2]
        exact hB
      | al t =>
        rw [hx] at hB hb2
        simp only [lowX] at hB hb2 ⊢
        rw [lowCs_ok hb2.1, lowT_ok _ _ _ _ hb2.2]
        exact hB
    | some t =>
      rw [hs] at hB hb2
      simp only [Bool.and_eq_true] at hB hb2 ⊢
      rw [lowT_ok _ _ _ _ hb2.2.1]
      exact hB
  · have := hM.cx.bs x hx
    unfold Bd.ok at *
    rw [lowT_ok _ _ _ _ (List.all_eq_true.1 h3 x hx)]
    exact this
  · rw [lowT_ok _ _ _ _ (List.all_eq_true.1 h4 t ht)]
    exact hM.cx.pc t ht
/-- The cells of a row of flat data, as letters from h + j on. -/
def leafC (h : Nat) : Nat → List Leaf → List C
  | _, [] => []
  | j, x :: l => (match x with
    | some (some k) => .int k (.iv (h + j))
    | some none => .bool (.bv (h + j))
    | none => .str (.sv (h + j))) :: leafC h (j + 1) l
theorem leafC_den {ρ : Env} {β : Bn} {h : Nat} {cs : List Value} : ∀ {l : List Leaf} {j : Nat} {ds : List Value}, leafAll l ds → (∀ i x, ds[i]? = some x → cs[j + i]? = some x) → denL (ρ.hi h cs) β (leafC h j l) = ds
  | [], _, [], _, _ => rfl
  | x :: l, j, d :: ds, hl, hat => by
    have h0 := hat 0 d rfl
    rw [Nat.add_zero] at h0
    have ih := leafC_den (ρ := ρ) (β := β) (h := h) (l := l) (j := j + 1) (ds := ds) hl.2 (fun i x hx => by
      have := hat (i + 1) x (by simpa using hx)
      rwa [show j + 1 + i = j + (i + 1) from by omega])
    show _ :: denL (ρ.hi h cs) β (leafC h (j + 1) l) = _
    rw [ih]
    congr 1
    rcases x with _ | _ | k
    · obtain ⟨z, rfl, _⟩ := hl.1
      show Value.string (if h + j < h then ρ.s (h + j) else strAt cs (h + j - h)) = _
      rw [if_neg (by omega), show h + j - h = j from by omega]
      unfold strAt
      rw [h0]
    · obtain ⟨z, rfl⟩ := hl.1
      show Value.bool (if h + j < h then ρ.b (h + j) else boolAt cs (h + j - h)) = _
      rw [if_neg (by omega), show h + j - h = j from by omega]
      unfold boolAt
      rw [h0]
    · obtain ⟨z, rfl, _⟩ := hl.1
      show Value.int k (if h + j < h then ρ.i (h + j) else intAt cs (h + j - h)) = _
      rw [if_neg (by omega), show h + j - h = j from by omega]
      unfold intAt
      rw [h0]
  | [], _, _ :: _, hl, _ => hl.elim
  | _ :: _, _, [], hl, _ => hl.elim
/-- More bounds are known. -/
theorem Md.bds {ρ : Env} {S : Nat → Prop} {w0 : World} {β0 : Bn} {n0 : Nat} {s : St} {β : Bn} {a : Act} {w : World} (hM : Md ρ S w0 β0 n0 s β a w) (bs : List Bd) (h : Bds ρ bs) : Md ρ S w0 β0 n0 { s with cx := ⟨bs ++ s.cx.bs, s.cx.pc⟩ } β a w :=
  ⟨hM.act, hM.hp, hM.ne, hM.may, ⟨fun x hx => by
    rcases List.mem_append.1 hx with hx | hx
    · exact h x hx
    · exact hM.cx.bs x hx, hM.cx.pc⟩, hM.only, hM.old⟩
/-- A nil slice is a row of no bytes. -/
def nilC (n : Nat) : C → C
  | .nslc => .slr n (.il 0) (.il 0) (.il 0)
  | x => x
def nilRow (s : St) (n : Nat) (ty : TypeId) : St := { s with hp := ⟨n, ty, ownCs true, true, some (.sl []), .no⟩ :: s.hp.map fun b => { b with cs := b.cs.map (nilC n) } }
theorem nilC_den {ρ : Env} {β : Bn} {n : Nat} {x : C} (hx : x.has n = false) (hx' : x.has (n + 1) = false) : (nilC n x).den ρ (upd (upd β n 0) (n + 1) 0) = x.den ρ β := by
  have hd : x.den ρ (upd (upd β n 0) (n + 1) 0) = x.den ρ β := by rw [C.den_upd ρ hx', C.den_upd ρ hx]
  cases x with
  | nslc =>
    show (if upd (upd β n 0) (n + 1) 0 (n + 1) = 0 then _ else _) = _
    rw [upd_new, if_pos rfl]
    rfl
  | _ => exact hd
theorem bitF_map {β : Bn} {f : C → C} (h1 : ∀ l o, f (.ptr l o) = .ptr l o) (h2 : ∀ x l o, f x = .ptr l o → x = .ptr l o) (cs : List C) : bitF β (cs.map f) = bitF β cs := by
  funext g
  cases cs with
  | nil => rfl
  | cons x xs => cases xs with
    | nil =>
      by_cases hp : ∃ l o, x = .ptr l o
      · obtain ⟨l, o, rfl⟩ := hp
        show bitF β [f (.ptr l o)] g = _
        rw [h1]
      · exact propext ⟨fun q => absurd q (bitF_one (fun l o e => hp ⟨l, o, h2 x l o e⟩) g), fun q => absurd q (bitF_one (fun l o e => hp ⟨l, o, e⟩) g)⟩
    | cons y ys => exact propext ⟨fun q => absurd q (bitF_two g), fun q => absurd q (bitF_two g)⟩
theorem bitF_nil {β : Bn} (n : Nat) (cs : List C) : bitF β (cs.map (nilC n)) = bitF β cs := bitF_map (fun _ _ => rfl) (fun x l o h => by cases x <;> first | exact h | cases h) cs
theorem Md.nilRow {ρ : Env} {S : Nat → Prop} {w0 : World} {β0 : Bn} {n0 : Nat} {s : St} {β : Bn} {a : Act} {w : World} (hM : Md ρ S w0 β0 n0 s β a w) (n : Nat) (ty : TypeId) (hn : n0 ≤ n) (hf : s.free n = true) (hf1 : s.free (n + 1) = true) :
    Md ρ S w0 β0 n0 (nilRow s n ty) (upd (upd β n 0) (n + 1) 0) a w := by
  unfold St.free at hf hf1
  simp only [Bool.and_eq_true, List.all_eq_true, Bool.not_eq_true'] at hf hf1
  have hl : ∀ b ∈ s.hp, upd (upd β n 0) (n + 1) 0 b.l = β b.l ∧ upd (upd β n 0) (n + 1) 0 (b.l + 1) = β (b.l + 1) := fun b hb => by
    have g1 := hf.2 b hb
    have g2 := hf1.2 b hb
    exact ⟨by rw [upd_old (beq_ne g2.1), upd_old (beq_ne g1.1)], by rw [upd_old (beq_ne g2.2.2), upd_old (beq_ne g1.2.2)]⟩
  have hcs : ∀ b ∈ s.hp, denL ρ (upd (upd β n 0) (n + 1) 0) (b.cs.map (nilC n)) = denL ρ β b.cs := fun b hb => by
    unfold denL
    rw [List.map_map]
    apply List.map_congr_left
    intro x hx
    refine nilC_den ?_ ?_
    · have := List.any_eq_false.1 (hf.2 b hb).2.1 x hx
      simpa using this
    · have := List.any_eq_false.1 (hf1.2 b hb).2.1 x hx
      simpa using this
  have hd : ∀ b ∈ s.hp, denL ρ (upd (upd β n 0) (n + 1) 0) b.cs = denL ρ β b.cs := fun b hb => (denL_upd ρ (hf1.2 b hb).2.1).trans (denL_upd ρ (hf.2 b hb).2.1)
  have hreal : ∀ b : Bk, b ∈ s.hp → Bk.real (upd (upd β n 0) (n + 1) 0) { b with cs := b.cs.map (nilC n) } → b.real β := fun b hb hr => by
    unfold Bk.real at hr ⊢
    rwa [(hl b hb).2] at hr
  have hnot : ¬ Bk.real (upd (upd β n 0) (n + 1) 0) ⟨n, ty, ownCs true, true, some (.sl []), .no⟩ := fun hr => by
    rcases hr with hr | hr
    · cases hr
    · exact hr (upd_new _ _ _)
  refine ⟨?_, fun b hb => ?_, fun x hx y hy hne hrx hry => ?_, fun b hb hw hr => ?_, hM.cx, hM.only, fun k hk => ?_⟩
  · rw [hM.act]
    congr 2
    apply List.map_congr_left
    intro x hx
    rw [SV.den_upd ρ (by simpa using hf1.1 x hx), SV.den_upd ρ (by simpa using hf.1 x hx)]
  · rcases List.mem_cons.1 hb with rfl | hb
    · show RowB w _ (upd (upd β n 0) (n + 1) 0 (n + 1)) ty _ []
      rw [upd_new]
      exact ⟨fun h => absurd rfl h, Nat.le_refl _⟩
    · obtain ⟨b', hb', rfl⟩ := List.mem_map.1 hb
      have hB := hM.hp b' hb'
      unfold BkOk at hB ⊢
      cases hs : b'.str with
      | none =>
        rw [hs] at hB
        cases hx : b'.x with
        | no =>
          rw [hx] at hB
          simp only [] at hB ⊢
          rw [hcs b' hb', (hl b' hb').1]
          exact hB
        | tab lv t =>
          rw [hx] at hB
          simp only [] at hB ⊢
          rw [(hl b' hb').1, (hl b' hb').2]
          exact hB
        | arr ins =>
          rw [hx] at hB
          simp only [] at hB ⊢
          rw [hcs b' hb', (hl b' hb').1]
          exact hB
        | mp ks ag v t =>
          rw [hx] at hB
          simp only [] at hB ⊢
          rw [(hl b' hb').1]
          exact hB
        | own k t =>
          rw [hx] at hB
          simp only [] at hB ⊢
          rw [(hl b' hb').1, bitF_nil, bitF_agree (hd b' hb')]
          exact hB
        | al t =>
          rw [hx] at hB
          simp only [] at hB ⊢
          rw [hcs b' hb', (hl b' hb').2]
          exact hB
      | some t =>
        rw [hs] at hB
        simp only [] at hB ⊢
        rw [(hl b' hb').1, (hl b' hb').2, show (b'.cs.map (nilC n)).isEmpty = b'.cs.isEmpty from by cases b'.cs <;> rfl]
        exact hB
  · rcases List.mem_cons.1 hx with rfl | hx
    · exact absurd hrx hnot
    rcases List.mem_cons.1 hy with rfl | hy
    · exact absurd hry hnot
    obtain ⟨x', hx', rfl⟩ := List.mem_map.1 hx
    obtain ⟨y', hy', rfl⟩ := List.mem_map.1 hy
    exact ((hM.ne x' hx' y' hy' hne (hreal x' hx' hrx) (hreal y' hy' hry)).agree (hl x' hx').1 (hd x' hx') (hl y' hy').1 (hd y' hy')).like rfl rfl rfl rfl (bitF_nil _ _) (bitF_nil _ _)
  · rcases List.mem_cons.1 hb with rfl | hb
    · exact absurd hr hnot
    · obtain ⟨b', hb', rfl⟩ := List.mem_map.1 hb
      exact fun g hg => hM.may b' hb' hw (hreal b' hb' hr) g ((fp_agree (hl b' hb').1 (hd b' hb') g).1 ((fp_like (x := { b' with cs := b'.cs.map (nilC n) }) (y := b') rfl rfl g (bitF_nil n b'.cs)).1 hg))
  · rw [upd_old (by omega), upd_old (by omega)]
    exact hM.old k hk

/-! From a place in a sequence to the next one. -/
def okP : List Nat → Code → Bool
  | [], _ => true
  | 0 :: p, .seq a _ => okP p a
  | 1 :: p, .seq _ b => okP p b
  | 2 :: p, .block _ a => okP p a
  | 2 :: p, .scope a => okP p a
  | _, _ => false
theorem sub_ctx {P : Program} {x y : Code} {a : Act} {w : World} : ∀ (p : List Nat) (c : Code) (Q : Exit → Act → World → Prop), sub p c = .seq x y → okP p c = true → (ctx P (p ++ [0]) c Q .normal a w ↔ y.wp P (ctx P p c Q) a w) ∧ sub (p ++ [1]) c = y := by
  intro p
  induction p with
  | nil =>
    intro c Q h _
    change c = _ at h
    subst h
    exact ⟨Iff.rfl, rfl⟩
  | cons d p ih =>
    intro c Q h hk
    rcases d with _ | _ | _ | d
    · cases c <;> try (cases hk; done)
      exact ih _ _ h hk
    · cases c <;> try (cases hk; done)
      exact ih _ _ h hk
    · cases c <;> try (cases hk; done)
      · exact ih _ _ h hk
      · exact ih _ _ h hk
    · cases c <;> cases hk

/-- What is run ahead of a place; there the frame is of the template's shape. -/
theorem part_preT {P : Program} {sp : List Spec} {S : Nat → Prop} {w0 : World} {β0 : Bn} {lim fuel n0 : Nat} {p : List Nat} {c : Code} {s T : St} {r : Rs} (hr : r = run P sp lim fuel n0 (.code (pre p c)) s) {ys : List Sh} (hrun : shR n0 (some T) r = some ys) {Q : Exit → Act → World → Prop}
    (I : Env → Prop) (hcx : ∀ ρ, I ρ → T.cx.ok ρ) {ρ : Env} (hg : ρ.good) (hsp : ∀ q ∈ sp, q.Ok P ρ) (hd : AllL (Sh.done r ⟨ρ, S, w0, β0, n0⟩ (Qpre P p c Q) fun l β => ∀ u, I { ρ.sub β l with u := u }) ys)
    (next : ∀ ρ', I ρ' → ∀ β a w, Md ρ' S w0 β0 n0 T β a w → (sub p c).wp P (ctx P p c Q) a w) {β : Bn} {a : Act} {w : World} (hM : Md ρ S w0 β0 n0 s β a w) : c.wp P Q a w := by
  obtain ⟨l, hl, hok⟩ := shR_ok (B := ⟨ρ, S, w0, β0, n0⟩) (Q := Qpre P p c Q) (again := fun l β => ∀ u, I { ρ.sub β l with u := u }) (by
    intro T' hT l s hm β a w hM h
    injection hT with hT
    subst hT
    have h1 := h (ρ.sub β l).u
    rw [← sub_noU] at h1
    exact next _ h1 _ _ _ (Sy.Md.matched hM hm (hcx _ h1))) hrun hd
  exact pre_wp (B := ⟨ρ, S, w0, β0, n0⟩) hg hsp rfl p c Q fuel s l (hr.symm.trans hl) hok β a w hM
/-- A contract of a function that reads blocks: where these blocks stand, these arguments give that. -/
def memSp (f : FuncId) (ok : St → List SV → Bool) (v : SV) (bs : List Bd) : Spec where
  f := f
  pre := fun s xs => if ok s xs then some [] else none
  go := fun _ s xs => if ok s xs then some ({ s with cx := ⟨bs ++ s.cx.bs, s.cx.pc⟩ }, v) else none
theorem memSp_ok {P : Program} {ρ : Env} {f : FuncId} {ok : St → List SV → Bool} {v : SV} {bs : List Bd} (hbs : Bds ρ bs)
    (h : ∀ (S : Nat → Prop) (w0 : World) (β0 : Bn) (n0 : Nat) (s : St) (xs : List SV) (β : Bn) (a : Act) (w : World), ok s xs = true → Md ρ S w0 β0 n0 s β a w → Calls P f (xs.map (SV.den ρ β)).toArray w fun e w' => e = .returned (v.den ρ β) ∧ Below w.heap.size w w') : (memSp f ok v bs).Ok P ρ := by
  intro B s xs m s' v' hB hpre hgo hm β a w hM
  subst hB
  simp only [memSp] at hpre hgo
  split at hpre
  · rename_i q
    rw [if_pos q] at hgo
    injection hgo with hgo
    injection hgo with h1 h2
    subst h1 h2
    refine (h _ _ _ _ s xs β a w q hM).mono ?_
    rintro e w' ⟨rfl, hb⟩
    refine ⟨β, a, rfl, ?_⟩
    have hM' : Md B.ρ B.S B.w0 B.β0 B.n0 s β a w' := ⟨hM.act, fun b hb' => (hM.hp b hb').below hb, hM.ne, hM.may, hM.cx, hM.only.then_below hb, hM.old⟩
    exact Sy.Md.bds hM' bs hbs
  · cases hpre
/-! The row. -/
/-- Takes the row at a place of a slice into a new variable: four operations. -/
structure RowOps (id : Nat) (c : Code) (tS tE : TypeId) (x i d1 d2 d3 : Tmp) : Prop where
  c : ∃ o1 o2 o3 o4 : Oper, c = .region id #[o1, o2, o3, o4] false ∧ (o1.op = .indexAddr tS (.tmp x) (.tmp i) ∧ o1.dst = some d1 ∧ o1.guard = none) ∧ (o2.op = .load tE (.tmp d1) ∧ o2.dst = some d2 ∧ o2.guard = none) ∧
    (o3.op = .alloc tE ∧ o3.dst = some d3 ∧ o3.guard = none) ∧ (o4.op = .store tE (.tmp d3) (.tmp d2) ∧ o4.dst = none ∧ o4.guard = none)
def row1 (s : St) (m : Nat) (d1 : Tmp) : St := s.put (some d1) (.any m)
def row2 (s : St) (cs : List C) (m : Nat) (d1 d2 : Tmp) : St := (row1 s m d1).put (some d2) (.one (.agg cs))
def rowSt (s : St) (n : Nat) (tE : TypeId) (cs : List C) (m : Nat) (d1 d2 d3 : Tmp) : St := (((row2 s cs m d1 d2).new n tE cs).put (some d3) (.one (.c (.ptr n 0)))).put none undS
theorem wpList_val {P : Program} {all : Array Oper} {rest : List Oper} {o : Oper} {a : Act} {w w' : World} {Q : Exit → Act → World → Prop} {v : Value} (hg : o.guard = none) (hrun : (execOp a.eval o).run P w = .ok (.value v) w') (h : wpList P all Q rest (a.put o.dst v) w') : wpList P all Q (o :: rest) a w :=
  wpList_plain hg fun _ hK => wp_value hrun (hK _ _ h)
theorem row_wp {P : Program} {ρ : Env} (hρ : ρ.good) {S : Nat → Prop} {w0 : World} {β0 : Bn} {n0 : Nat} {s : St} {β : Bn} {a : Act} {w : World} (hM : Md ρ S w0 β0 n0 s β a w) {id : Nat} {c : Code} {tS tE : TypeId} {x i d1 d2 d3 : Tmp} (ho : RowOps id c tS tE x i d1 d2 d3)
    {b off len cap k : Nat} {vx vi : SV} (hx : s.tm[x]? = some vx) (hx' : vx.den ρ β = .slice (some ⟨b, off, none⟩) len cap) (hi : s.tm[i]? = some vi) (hi' : vi.den ρ β = .int .i64 (k : Int)) (hk : k < len)
    {m n : Nat} {cs : List C} (hu : ρ.u m = .pointer (some ⟨b, off + k * cs.length, none⟩)) (hr : w.rangeAt b (off + k * cs.length) (denL ρ β cs)) {d : TypeDesc} (hus : P.underlying tS = some (.slice tE)) (hue : P.underlying tE = some d) (hd : d.isRow = true) (hinf : (P.info? tE).map (·.size) = some cs.length)
    {zs : List C} (hz : zeroS P tE = some zs) (hzl : zs.length = cs.length) (hn : n0 ≤ n) (hf : (row2 s cs m d1 d2).free n = true) (hc : hasL n cs = false)
    (e1 : (row1 s m d1).tm[d1]? = some (.any m)) (e2 : (row2 s cs m d1 d2).tm[d2]? = some (.one (.agg cs))) (e3 : (((row2 s cs m d1 d2).new n tE cs).put (some d3) (.one (.c (.ptr n 0)))).tm[d3]? = some (.one (.c (.ptr n 0)))) (e4 : (((row2 s cs m d1 d2).new n tE cs).put (some d3) (.one (.c (.ptr n 0)))).tm[d2]? = some (.one (.agg cs)))
    {Q : Exit → Act → World → Prop} (h : ∀ β a w, Md ρ S w0 β0 n0 (rowSt s n tE cs m d1 d2 d3) β a w → Q .normal a w) : c.wp P Q a w := by
  obtain ⟨o1, o2, o3, o4, rfl, ⟨p1, t1, g1⟩, ⟨p2, t2, g2⟩, ⟨p3, t3, g3⟩, ⟨p4, t4, g4⟩⟩ := ho.c
  refine wp_region_list ?_
  show wpList P _ Q [o1, o2, o3, o4] a w
  have hE : P.elem tS = tE := by simp [Program.elem, hus]
  have hlen : (denL ρ β cs).length = cs.length := by simp [denL]
  have M1 : Md ρ S w0 β0 n0 (row1 s m d1) β (a.put (some d1) (.pointer (some ⟨b, off + k * cs.length, none⟩))) w := by
    have := Sy.Md.put hM (some d1) (.any m)
    rwa [show (SV.any m).den ρ β = ρ.u m from rfl, hu] at this
  have M2 : Md ρ S w0 β0 n0 (row2 s cs m d1 d2) β ((a.put (some d1) (.pointer (some ⟨b, off + k * cs.length, none⟩))).put (some d2) (.agg (denL ρ β cs).toArray)) w := Sy.Md.put M1 (some d2) (.one (.agg cs))
  have M3 := Sy.Md.put (Sy.Md.new M2 n hn hf tE cs hc) (some d3) (.one (.c (.ptr n 0)))
  have hp3 : (SV.one (.c (.ptr n 0))).den ρ (upd β n w.heap.size) = .pointer (some ⟨w.heap.size, 0, none⟩) := by
    show Value.pointer (some ⟨upd β n w.heap.size n, 0, none⟩) = _
    rw [upd_new]
  rw [hp3] at M3
  have M4 := Sy.Md.put M3 none undS
  obtain ⟨ii, hii, his⟩ : ∃ ii, P.info? tE = some ii ∧ ii.size = cs.length := by
    cases hq : P.info? tE with
    | none => rw [hq] at hinf; cases hinf
    | some ii => rw [hq] at hinf; injection hinf with hinf; exact ⟨ii, rfl, hinf⟩
  refine wpList_val (v := .pointer (some ⟨b, off + k * cs.length, none⟩)) (w' := w) g1 ?_ ?_
  · have hx2 : a.eval (.tmp x) = .slice (some ⟨b, off, none⟩) len cap := (Sy.Md.opd hM (x := .tmp x) hx).trans hx'
    have hi2 : a.eval (.tmp i) = .int .i64 (k : Int) := (Sy.Md.opd hM (x := .tmp i) hi).trans hi'
    unfold execOp
    simp only [p1, hx2, hi2, Sem.run_bind]
    rw [run_indexAt_slice w tS _ _ _ .i64 (k : Int) (by rw [hE]; exact hus), hE, if_pos ⟨by omega, by omega⟩]
    simp only [sizeOf, typeInfo, Sem.run_bind, run_program, Result.andThen_ok, hii, Sem.run_pure, his, Int.toNat_natCast, Addr.add_mid]
  rw [t1]
  refine wpList_load_mid g2 tE (.tmp d1) p2 b (off + k * cs.length) (Sy.Md.opd M1 (x := .tmp d1) e1 |>.trans hu) (denL ρ β cs) d hr hue hd (by rw [hlen]; exact hinf) ?_
  rw [t2]
  refine wpList_val (v := .pointer (some ⟨w.heap.size, 0, none⟩)) (w' := w.alloc (.cells (denL ρ β zs).toArray tE)) g3 ?_ ?_
  · unfold execOp
    simp only [p3]
    simp only [Sem.run_bind, zeroS_ok (ρ := ρ) (β := β) hz w, Result.andThen_ok, Sem.run_pure]
  rw [t3]
  refine wpList_store_new g4 tE (.tmp d3) (.tmp d2) p4 (denL ρ β zs) (denL ρ β cs) ?_ ?_ (by simp [denL, hzl]) (by rw [hlen]; exact hinf) (denL_one hρ β cs) ?_
  · exact (Sy.Md.opd M3 (x := .tmp d3) e3).trans hp3
  · refine (Sy.Md.opd M3 (x := .tmp d2) e4).trans ?_
    show Value.agg (denL ρ (upd β n w.heap.size) cs).toArray = _
    rw [denL_upd ρ hc]
  rw [t4]
  exact wpList_nil (h _ _ _ M4)
end Sy
end Go.Proofs.Ytnmfmjlpfhdgeaa
