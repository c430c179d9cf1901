/- ListenSays: the rounds. Printed by gen_ls8.py. -/
import Derived.Test.YtnjpoidpfcfbeaaLs6
import Derived.Test.YtnjpoidpfcfbeaaLs7
namespace Go.Proofs.Ytnjpoidpfcfbeaa
open Go.RowKit Sy
set_option linter.unusedVariables false
set_option linter.unusedSimpArgs false

theorem i_tlen {ρ : Env} {x : Tm} : (den ρ (tlen x)).i = ((den ρ x).c.length : Int) := rfl
/-! What the letters say. -/
section
variable {ρ : Env}
theorem d45 (hf : ρ.f = lsF) {a p : Tm} (he : EnOk (den ρ a).i (den ρ p).i) : (den ρ (.ap 45 (.cv 1) (enY a p) (.il 0))).i = ixOf (fromD (den ρ a).i (den ρ p).i) (ρ.c 1) := by
  show (ρ.f 45 _ _ _).i = _
  rw [hf]
  show ixOf (fromD (eA (den ρ (enY a p))) (eP (den ρ (enY a p)))) _ = _
  rw [eA_ok he, eP_ok he]
  rfl
theorem d46 (hf : ρ.f = lsF) {a p : Tm} (he : EnOk (den ρ a).i (den ρ p).i) : (den ρ (.ap 46 (.cv 2) (enY a p) (.il 0))).i = ixOf (fromW (den ρ a).i (den ρ p).i) (ρ.c 2) := by
  show (ρ.f 46 _ _ _).i = _
  rw [hf]
  show ixOf (fromW (eA (den ρ (enY a p))) (eP (den ρ (enY a p)))) _ = _
  rw [eA_ok he, eP_ok he]
  rfl
theorem d47 (hf : ρ.f = lsF) {a p : Tm} (he : EnOk (den ρ a).i (den ρ p).i) : (den ρ (.ap 47 (.cv 2) (enY a p) (.il 2))).b = (fdD (ρ.c 2) (den ρ a).i (den ρ p).i 2).b := by
  show (ρ.f 47 _ _ _).b = _
  rw [hf]
  show (fdD _ (eA (den ρ (enY a p))) (eP (den ρ (enY a p))) 2).b = _
  rw [eA_ok he, eP_ok he]
  rfl
theorem d48 (hf : ρ.f = lsF) {a p : Tm} (he : EnOk (den ρ a).i (den ρ p).i) : (den ρ (.ap 48 (.cv 2) (enY a p) (.il 0))).c = dropW (den ρ a).i (den ρ p).i (ρ.c 2) := by
  show (ρ.f 48 _ _ _).c = _
  rw [hf]
  show dropW (eA (den ρ (enY a p))) (eP (den ρ (enY a p))) _ = _
  rw [eA_ok he, eP_ok he]
  rfl
theorem d49 (hf : ρ.f = lsF) (t : Tm) : (den ρ (hN t)).i = (halfN (den ρ t).c : Int) := by
  show (ρ.f 49 _ _ _).i = _
  rw [hf]
  rfl
theorem dMix (a p : Tm) : (den ρ (.tb (.mix 2) (.cv 0) (enY a p) (.il 0))).i = mIx 2 (keyE (den ρ a).i (den ρ p).i) (ρ.c 0) := rfl
theorem dDel (a p : Tm) : (den ρ (.tb (.mdel 2) (.cv 0) (enY a p) (.il 0))).c = mDel 2 (keyE (den ρ a).i (den ρ p).i) (ρ.c 0) := rfl
theorem d52 (hf : ρ.f = lsF) (k : Tm) : (den ρ (.ap 52 (.cv 1) k (.il 0))).c = (ρ.c 1).eraseIdx (den ρ k).i.toNat := by
  show (ρ.f 52 _ _ _).c = _
  rw [hf]
  rfl
theorem d51 (hf : ρ.f = lsF) : (den ρ tR).c = tkL (ρ.c 2) := by
  show (ρ.f 51 _ _ _).c = _
  rw [hf]
  rfl
theorem d50 (hf : ρ.f = lsF) (k : Int) : (den ρ (tF k)).i = (tkD (ρ.c 2) k).i := by
  show (ρ.f 50 _ _ _).i = _
  rw [hf]
  rfl
/-- Who is where. -/
theorem three {a p : Tm} (hf : ρ.f = lsF) (he : EnOk (den ρ a).i (den ρ p).i) {m : Int} (R : RelL m (ρ.c 0) (ρ.c 1) (ρ.c 2)) :
    (0 ≤ (den ρ (.tb (.mix 2) (.cv 0) (enY a p) (.il 0))).i ∧ (den ρ (.ap 45 (.cv 1) (enY a p) (.il 0))).i < 0 ∧ 0 ≤ (den ρ (.ap 46 (.cv 2) (enY a p) (.il 0))).i ∧ (den ρ (.ap 47 (.cv 2) (enY a p) (.il 2))).b = true ∧ (ρ.c 1).eraseP (fromD (den ρ a).i (den ρ p).i) = ρ.c 1 ∧ (ρ.c 1).any (fromD (den ρ a).i (den ρ p).i) = false) ∨
    ((den ρ (.tb (.mix 2) (.cv 0) (enY a p) (.il 0))).i < 0 ∧ (0 ≤ (den ρ (.ap 45 (.cv 1) (enY a p) (.il 0))).i ∧ (den ρ (.ap 45 (.cv 1) (enY a p) (.il 0))).i < ((ρ.c 1).length : Int)) ∧ 0 ≤ (den ρ (.ap 46 (.cv 2) (enY a p) (.il 0))).i ∧ (den ρ (.ap 47 (.cv 2) (enY a p) (.il 2))).b = false ∧ (ρ.c 1).eraseP (fromD (den ρ a).i (den ρ p).i) = (den ρ (.ap 52 (.cv 1) (.ap 45 (.cv 1) (enY a p) (.il 0)) (.il 0))).c) ∨
    ((den ρ (.tb (.mix 2) (.cv 0) (enY a p) (.il 0))).i < 0 ∧ (den ρ (.ap 45 (.cv 1) (enY a p) (.il 0))).i < 0 ∧ (den ρ (.ap 46 (.cv 2) (enY a p) (.il 0))).i < 0 ∧ (ρ.c 1).eraseP (fromD (den ρ a).i (den ρ p).i) = ρ.c 1 ∧ (den ρ (.tb (.mdel 2) (.cv 0) (enY a p) (.il 0))).c = ρ.c 0 ∧ (ρ.c 1).any (fromD (den ρ a).i (den ρ p).i) = false ∧ (ρ.c 2).any (fromW (den ρ a).i (den ρ p).i) = false) := by
  have hm : 0 ≤ mIx 2 (keyE (den ρ a).i (den ρ p).i) (ρ.c 0) ↔ (ρ.c 0).any (isH (den ρ a).i (den ρ p).i) = true := mIx_any _ _ _
  rw [d52 hf, d45 hf he, d46 hf he, d47 hf he, dMix, dDel]
  have hw := ixOf_iff (p := fromD (den ρ a).i (den ρ p).i) (l := ρ.c 1)
  have hr := ixOf_iff (p := fromW (den ρ a).i (den ρ p).i) (l := ρ.c 2)
  have ha := R.any (den ρ a).i (den ρ p).i
  have h2 := R.two (a := (den ρ a).i) (p := (den ρ p).i)
  have hfd := R.fH (a := (den ρ a).i) (p := (den ρ p).i)
  cases h : (ρ.c 0).any (isH (den ρ a).i (den ρ p).i) with
  | true =>
    rw [h] at ha hm hfd
    have hw0 := h2 h
    rw [hw0] at ha hw
    refine .inl ⟨hm.2 rfl, ?_, hr.2 ha, hfd ha, erase_none hw0, hw0⟩
    rcases Int.lt_or_le (ixOf (fromD (den ρ a).i (den ρ p).i) (ρ.c 1)) 0 with q | q
    · exact q
    · exact absurd (hw.1 q) (by decide)
  | false =>
    rw [h] at ha hm hfd
    have hmn : mIx 2 (keyE (den ρ a).i (den ρ p).i) (ρ.c 0) < 0 := by
      rcases Int.lt_or_le (mIx 2 (keyE (den ρ a).i (den ρ p).i) (ρ.c 0)) 0 with q | q
      · exact q
      · exact absurd (hm.1 q) (by decide)
    cases hq : (ρ.c 1).any (fromD (den ρ a).i (den ρ p).i) with
    | true =>
      rw [hq] at ha hw
      exact .inr (.inl ⟨hmn, ⟨hw.2 rfl, (ixOf_rng _ _).2⟩, hr.2 ha, hfd ha, (erase_ix (hw.2 rfl)).symm⟩)
    | false =>
      rw [hq] at ha hw
      refine .inr (.inr ⟨hmn, ?_, ?_, erase_none hq, ?_, rfl, ha⟩)
      · rcases Int.lt_or_le (ixOf (fromD (den ρ a).i (den ρ p).i) (ρ.c 1)) 0 with q | q
        · exact q
        · exact absurd (hw.1 q) (by decide)
      · rw [ha] at hr
        rcases Int.lt_or_le (ixOf (fromW (den ρ a).i (den ρ p).i) (ρ.c 2)) 0 with q | q
        · exact q
        · exact absurd (hr.1 q) (by decide)
      · rw [mDel_erase]
        exact erase_none h
end
structure LiI (vs : Value) (len : Nat) (ρ : Env) : Prop where
  g : ρ.good
  v : ρ.v 0 = vs
  f : ρ.f = lsF
  i0 : 0 ≤ ρ.i 0
  le : ρ.i 0 ≤ ρ.i 1
  i1 : ρ.i 1 = (len : Int)
  m1 : 1 ≤ ρ.i 7
  m8 : ρ.i 7 ≤ 8
  rel : RelL (ρ.i 7) (ρ.c 0) (ρ.c 1) (ρ.c 2)
  i8 : ρ.i 8 = ((ρ.c 1).length : Int)
  i9 : ρ.i 9 = ((ρ.c 2).length : Int)
section
variable {vs : Value} {len : Nat}
theorem LiI.bs (hl : len ≤ 140737488355328) {ρ : Env} (h : LiI vs len ρ) : bdsP ρ liBs := by
  have i0 := h.i0
  have le := h.le
  have i1 := h.i1
  have hm := h.rel.hm
  have wm := h.rel.wm
  have m8 := h.m8
  have m1 := h.m1
  have c := h.rel.cnt.2
  have i8 := h.i8
  have i9 := h.i9
  refine ⟨?_, ?_, ?_, ?_, ?_, ?_, ?_, ?_, trivial⟩
  · show 0 ≤ ρ.i 0 ∧ ρ.i 0 ≤ 140737488355328; omega
  · show 0 ≤ ρ.i 1 ∧ ρ.i 1 ≤ 140737488355328; omega
  · show 1 ≤ ρ.i 7 ∧ ρ.i 7 ≤ 8; omega
  · show (0 : Int) ≤ ((ρ.c 0).length : Int) ∧ ((ρ.c 0).length : Int) ≤ 2000; omega
  · show (0 : Int) ≤ ((ρ.c 1).length : Int) ∧ ((ρ.c 1).length : Int) ≤ 2000; omega
  · show (0 : Int) ≤ ((ρ.c 2).length : Int) ∧ ((ρ.c 2).length : Int) ≤ 2000; omega
  · show 0 ≤ ρ.i 8 ∧ ρ.i 8 ≤ 2000; omega
  · show 0 ≤ ρ.i 9 ∧ ρ.i 9 ≤ 2000; omega
theorem LiI.pc {ρ : Env} (h : LiI vs len ρ) : pcs ρ liPc := by
  have i8 := h.i8
  have i9 := h.i9
  refine ⟨?_, ?_, ?_, ?_, trivial⟩
  · rw [pc1, t_le]; show ρ.i 8 ≤ ((ρ.c 1).length : Int); omega
  · rw [pc2, t_le]; show ((ρ.c 1).length : Int) ≤ ρ.i 8; omega
  · rw [pc3, t_le]; show ρ.i 9 ≤ ((ρ.c 2).length : Int); omega
  · rw [pc4, t_le]; show ((ρ.c 2).length : Int) ≤ ρ.i 9; omega
theorem LiI.cx (hl : len ≤ 140737488355328) {ρ : Env} (h : LiI vs len ρ) : Cx.ok ρ ⟨liBs, liPc⟩ := cxP (h.bs hl) h.pc
theorem LiI.hi {ρ : Env} (h : LiI vs len ρ) (cs : List Value) (u : Nat → Value) : LiI vs len { ρ.hi 100 cs with u := u } := ⟨h.g, h.v, h.f, h.i0, h.le, h.i1, h.m1, h.m8, h.rel, h.i8, h.i9⟩
theorem LiI.next {ρ ρ' : Env} (h : LiI vs len ρ) (hlt : ρ.i 0 < ρ.i 1) (v : ρ'.v = ρ.v) (f : ρ'.f = ρ.f) (i0 : ρ'.i 0 = ρ.i 0 + 1) (i1 : ρ'.i 1 = ρ.i 1) (i7 : ρ'.i 7 = ρ.i 7) (rel : RelL (ρ.i 7) (ρ'.c 0) (ρ'.c 1) (ρ'.c 2)) (i8 : ρ'.i 8 = ((ρ'.c 1).length : Int)) (i9 : ρ'.i 9 = ((ρ'.c 2).length : Int)) : LiI vs len ρ' ∧ saysMu ρ' < saysMu ρ := by
  have h0 := h.i0
  refine ⟨⟨fun i => by rw [v]; exact h.g i, by rw [v]; exact h.v, f.trans h.f, by omega, by omega, i1.trans h.i1, by rw [i7]; exact h.m1, by rw [i7]; exact h.m8, by rw [i7]; exact rel, i8, i9⟩, ?_⟩
  show (ρ'.i 1 - ρ'.i 0).toNat < (ρ.i 1 - ρ.i 0).toNat
  omega
theorem x_int {cs : List Value} (h : leafAll stepLeaves cs) (n : Nat) (hn : stepLeaves[n]? = some (some (some .i64))) : -9223372036854775808 ≤ intAt cs n ∧ intAt cs n ≤ 9223372036854775807 := by
  obtain ⟨y, hy, hw⟩ := leaf_int h n hn
  unfold intAt
  rw [hy]
  exact bounds_i64 hw
theorem x_u32 {cs : List Value} (h : leafAll stepLeaves cs) (n : Nat) (hn : stepLeaves[n]? = some (some (some .u32))) : 0 ≤ intAt cs n ∧ intAt cs n ≤ 4294967295 := by
  obtain ⟨y, hy, hw⟩ := leaf_int h n hn
  unfold intAt
  rw [hy]
  exact bounds_u32 hw
theorem x_bds {cs : List Value} (h : leafAll stepLeaves cs) (ρ : Env) (u : Nat → Value) {k : Int} (hm : intAt cs 0 % 4 = k) : Bds { ρ.hi 100 cs with u := u } (xBs k) := by
  refine bdsP_ok ⟨?_, ?_, ?_, ?_, ?_, trivial⟩
  · show k ≤ intAt cs 0 % 4 ∧ intAt cs 0 % 4 ≤ k; omega
  · exact x_int h 0 rfl
  · exact x_int h 1 rfl
  · exact x_u32 h 34 rfl
  · exact x_int h 35 rfl
theorem li_sp {ρ : Env} (h : ρ.f = lsF) : ∀ q ∈ liSp, q.Ok Try.prog ρ := by
  intro q hq
  change q ∈ [_, _, _, _, _, _, _] at hq
  simp only [List.mem_cons, List.not_mem_nil, or_false] at hq
  rcases hq with rfl | rfl | rfl | rfl | rfl | rfl | rfl
  · exact ofSp_ok
  · exact ixSp_ok h
  · exact fdSp_ok h
  · exact drSp_ok h
  · exact mnSp_ok h
  · exact tkSp_ok h
  · exact dlSp_ok h
theorem li_md {ρ : Env} {S : Nat → Prop} {w0 : World} {β0 : Bn} {n0 : Nat} {s : Sy.St} {β : Bn} {a : Act} {w : World} (hM : Md ρ S w0 β0 n0 s β a w) (c : Cx) (hc : c.ok ρ) : Md ρ S w0 β0 n0 { s with cx := c } β a w := ⟨hM.act, hM.hp, hM.ne, hM.may, hc, hM.only, hM.old⟩
variable {w0 : World} {Q : Exit → Act → World → Prop}
abbrev LiQ (w0 : World) (vs : Value) (len m : Nat) (Q : Exit → Act → World → Prop) : Exit → Act → World → Prop := Exit.then (NextR (fun _ => False) w0 (fun _ => 0) 0 (liT Try.prog Try.f4) (LiI vs len) saysMu m) Q
set_option maxRecDepth 100000 in
set_option maxHeartbeats 1000000 in
theorem li_r0 (hl : len ≤ 140737488355328) {ρ : Env} (hI : LiI vs len ρ) (hlt : ρ.i 0 < ρ.i 1) {cs : List Value} (hcs : leafAll stepLeaves cs) (hm : intAt cs 0 % 4 = 0) {u : Nat → Value} {β : Bn} {a : Act} {w : World}
    (hM : Md { ρ.hi 100 cs with u := u } (fun _ => False) w0 (fun _ => 0) 0 (liX Try.prog Try.f4) β a w) : ctx Try.prog rowP (saysB Try.f4 liP) (LiQ w0 vs len (saysMu ρ) Q) .normal a w := by
  have hI1 := hI.hi cs u
  have hM1 := li_md hM ⟨xBs 0 ++ liBs, liPc⟩ ⟨fun x hx => (List.mem_append.1 hx).elim (x_bds hcs ρ u hm x) (bdsP_ok (hI1.bs hl) x), pcs_all hI1.pc⟩
  have hlt1 : ({ ρ.hi 100 cs with u := u } : Env).i 0 < ({ ρ.hi 100 cs with u := u } : Env).i 1 := hlt
  have hen : EnOk (({ ρ.hi 100 cs with u := u } : Env).i 134) (({ ρ.hi 100 cs with u := u } : Env).i 135) := by
    obtain ⟨h1, h2⟩ := x_u32 hcs 34 rfl
    obtain ⟨h3, h4⟩ := x_int hcs 35 rfl
    exact ⟨h1, h2, h3, h4⟩
  have hid : IntKind.i64.wrap (({ ρ.hi 100 cs with u := u } : Env).i 101) = ({ ρ.hi 100 cs with u := u } : Env).i 101 := by
    obtain ⟨h1, h2⟩ := x_int hcs 1 rfl
    exact wrap_in (k := .i64) h1 h2
  have hmu : saysMu ρ = saysMu { ρ.hi 100 cs with u := u } := rfl
  rw [hmu]
  generalize ({ ρ.hi 100 cs with u := u } : Env) = ρ1 at hM1 hI1 hlt1 hen hid
  clear hM hI hlt hm hmu hcs
  have he : EnOk (den ρ1 (.iv 134)).i (den ρ1 (.iv 135)).i := hen
  have f1 := hI1.f
  have R := hI1.rel
  have i8 := hI1.i8
  have i9 := hI1.i9
  obtain ⟨n1, n2⟩ := R.cnt
  have hmx := R.hm
  have wmx := R.wm
  have n3 := d49 f1 (.cv 2)
  have n3 : (den ρ1 (hN (.cv 2))).i = (halfN (ρ1.c 2) : Int) := n3
  rcases three f1 he R with ⟨q1, q2, q3, q4, q5, q6⟩ | ⟨q1, ⟨q2, q2'⟩, q3, q4, q5⟩ | ⟨q1, q2, q3, q5, q6, q7, q8⟩
  · have q1 : 0 ≤ (den ρ1 iH).i := q1
    have q2 : (den ρ1 iW).i < 0 := q2
    have q3 : 0 ≤ (den ρ1 iR).i := q3
    refine round_aft .normal (r := liOp Try.prog Try.f4 0) rfl li_op0 (I := LiI vs len) (fun ρ h => by rw [li_cx]; exact h.cx hl) hI1.g (li_sp f1) ⟨?_, ?_, ?_, ?_, ?_, ?_, ?_, ?_, ?_, ?_, ?_, ?_, ?_, ?_, ?_, ?_, ?_, ?_, ?_, ?_, trivial⟩ hM1
    all_goals
      intro hpc
      replace hpc : pcs ρ1 _ := hpc
      simp only [pcs, pc1, pc2, pc3, pc4, t_lt, t_le, t_eq, t_not, t_and, i_iv, i_il, i_add, i_sub, i_tlen, c_cv, and_true] at hpc
      try (exfalso; omega)
    · intro β1 u1
      exact hI1.next hlt1 rfl rfl rfl rfl rfl R i8 i9
  · have q1 : (den ρ1 iH).i < 0 := q1
    have q2 : 0 ≤ (den ρ1 iW).i := q2
    have q3 : 0 ≤ (den ρ1 iR).i := q3
    have q2' : (den ρ1 iW).i < ((ρ1.c 1).length : Int) := q2'
    refine round_aft .normal (r := liOp Try.prog Try.f4 0) rfl li_op0 (I := LiI vs len) (fun ρ h => by rw [li_cx]; exact h.cx hl) hI1.g (li_sp f1) ⟨?_, ?_, ?_, ?_, ?_, ?_, ?_, ?_, ?_, ?_, ?_, ?_, ?_, ?_, ?_, ?_, ?_, ?_, ?_, ?_, trivial⟩ hM1
    all_goals
      intro hpc
      replace hpc : pcs ρ1 _ := hpc
      simp only [pcs, pc1, pc2, pc3, pc4, t_lt, t_le, t_eq, t_not, t_and, i_iv, i_il, i_add, i_sub, i_tlen, c_cv, and_true] at hpc
      try (exfalso; omega)
    · intro β1 u1
      exact hI1.next hlt1 rfl rfl rfl rfl rfl R i8 i9
  · have q1 : (den ρ1 iH).i < 0 := q1
    have q2 : (den ρ1 iW).i < 0 := q2
    have q3 : (den ρ1 iR).i < 0 := q3
    have RA0 := fun h => R.add (a := ρ1.i 134) (p := ρ1.i 135) hen q8 h
    have lA : (den ρ1 aR).c.length = (ρ1.c 2).length + 1 := by show (ρ1.c 2 ++ [_]).length = _; rw [List.length_append]; rfl
    have eP : (den ρ1 pH).c = ρ1.c 0 ++ [[.int .u32 (ρ1.i 134), .int .i64 (ρ1.i 135), .int .i64 1]] := mPut_new (by
      have := R.any (ρ1.i 134) (ρ1.i 135)
      have q8' : (ρ1.c 2).any (fromW (ρ1.i 134) (ρ1.i 135)) = false := q8
      rw [q8'] at this
      cases h : (ρ1.c 0).any (isH (ρ1.i 134) (ρ1.i 135)) with
      | true => rw [h] at this; cases this
      | false => exact h)
    have lP : (den ρ1 pH).c.length = (ρ1.c 0).length + 1 := by rw [eP, List.length_append]; rfl
    have aC : (den ρ1 (hN aR)).i = (halfN (den ρ1 aR).c : Int) := d49 f1 aR
    have aD : halfN (den ρ1 aR).c = halfN (ρ1.c 2) + 1 := by
      show (ρ1.c 2 ++ [_]).countP _ = _
      rw [List.countP_append]
      rfl
    refine round_aft .normal (r := liOp Try.prog Try.f4 0) rfl li_op0 (I := LiI vs len) (fun ρ h => by rw [li_cx]; exact h.cx hl) hI1.g (li_sp f1) ⟨?_, ?_, ?_, ?_, ?_, ?_, ?_, ?_, ?_, ?_, ?_, ?_, ?_, ?_, ?_, ?_, ?_, ?_, ?_, ?_, trivial⟩ hM1
    all_goals
      intro hpc
      replace hpc : pcs ρ1 _ := hpc
      simp only [pcs, pc1, pc2, pc3, pc4, t_lt, t_le, t_eq, t_not, t_and, i_iv, i_il, i_add, i_sub, i_tlen, c_cv, and_true] at hpc
      try (exfalso; omega)
    · intro β1 u1
      exact hI1.next hlt1 rfl rfl rfl rfl rfl R i8 i9
    · intro β1 u1
      have RA : RelL (ρ1.i 7) (den ρ1 pH).c (ρ1.c 1) (den ρ1 aR).c := RA0 (by omega)
      exact hI1.next hlt1 rfl rfl rfl rfl rfl RA i8 (by show ((ρ1.c 2).length : Int) + 1 = ((den ρ1 aR).c.length : Int); omega)
set_option maxRecDepth 100000 in
set_option maxHeartbeats 1000000 in
theorem li_r1 (hl : len ≤ 140737488355328) {ρ : Env} (hI : LiI vs len ρ) (hlt : ρ.i 0 < ρ.i 1) {cs : List Value} (hcs : leafAll stepLeaves cs) (hm : intAt cs 0 % 4 = 1) {u : Nat → Value} {β : Bn} {a : Act} {w : World}
    (hM : Md { ρ.hi 100 cs with u := u } (fun _ => False) w0 (fun _ => 0) 0 (liX Try.prog Try.f4) β a w) : ctx Try.prog rowP (saysB Try.f4 liP) (LiQ w0 vs len (saysMu ρ) Q) .normal a w := by
  have hI1 := hI.hi cs u
  have hM1 := li_md hM ⟨xBs 1 ++ liBs, liPc⟩ ⟨fun x hx => (List.mem_append.1 hx).elim (x_bds hcs ρ u hm x) (bdsP_ok (hI1.bs hl) x), pcs_all hI1.pc⟩
  have hlt1 : ({ ρ.hi 100 cs with u := u } : Env).i 0 < ({ ρ.hi 100 cs with u := u } : Env).i 1 := hlt
  have hen : EnOk (({ ρ.hi 100 cs with u := u } : Env).i 134) (({ ρ.hi 100 cs with u := u } : Env).i 135) := by
    obtain ⟨h1, h2⟩ := x_u32 hcs 34 rfl
    obtain ⟨h3, h4⟩ := x_int hcs 35 rfl
    exact ⟨h1, h2, h3, h4⟩
  have hid : IntKind.i64.wrap (({ ρ.hi 100 cs with u := u } : Env).i 101) = ({ ρ.hi 100 cs with u := u } : Env).i 101 := by
    obtain ⟨h1, h2⟩ := x_int hcs 1 rfl
    exact wrap_in (k := .i64) h1 h2
  have hmu : saysMu ρ = saysMu { ρ.hi 100 cs with u := u } := rfl
  rw [hmu]
  generalize ({ ρ.hi 100 cs with u := u } : Env) = ρ1 at hM1 hI1 hlt1 hen hid
  clear hM hI hlt hm hmu hcs
  have he : EnOk (den ρ1 (.iv 134)).i (den ρ1 (.iv 135)).i := hen
  have f1 := hI1.f
  have R := hI1.rel
  have i8 := hI1.i8
  have i9 := hI1.i9
  obtain ⟨n1, n2⟩ := R.cnt
  have hmx := R.hm
  have wmx := R.wm
  have n3 := d49 f1 (.cv 2)
  have n3 : (den ρ1 (hN (.cv 2))).i = (halfN (ρ1.c 2) : Int) := n3
  have RD := R.drop (ρ1.i 134) (ρ1.i 135)
  have eD : (den ρ1 dR).c = dropW (ρ1.i 134) (ρ1.i 135) (ρ1.c 2) := d48 f1 he
  have eH : (den ρ1 dH).c = mDel 2 (keyE (ρ1.i 134) (ρ1.i 135)) (ρ1.c 0) := rfl
  rw [← eD, ← eH] at RD
  obtain ⟨d1, d2⟩ := RD.cnt
  have d3 := d49 f1 dR
  rcases three f1 he R with ⟨q1, q2, q3, q4, q5, q6⟩ | ⟨q1, ⟨q2, q2'⟩, q3, q4, q5⟩ | ⟨q1, q2, q3, q5, q6, q7, q8⟩
  · have q1 : 0 ≤ (den ρ1 iH).i := q1
    have q2 : (den ρ1 iW).i < 0 := q2
    have q3 : 0 ≤ (den ρ1 iR).i := q3
    have q4 : (den ρ1 fH).b = true := q4
    have lM : (den ρ1 mR).c.length = (den ρ1 dR).c.length + 1 := by show ((den ρ1 dR).c ++ [_]).length = _; rw [List.length_append]; rfl
    have aC : (den ρ1 (hN mR)).i = (halfN (den ρ1 mR).c : Int) := d49 f1 mR
    have aD : halfN (den ρ1 mR).c = halfN (den ρ1 dR).c := by
      show ((den ρ1 dR).c ++ [_]).countP _ = _
      rw [List.countP_append]
      rfl
    have q5 : (ρ1.c 1).eraseP (fromD (ρ1.i 134) (ρ1.i 135)) = ρ1.c 1 := q5
    rw [q5] at RD d2
    refine round_aft .normal (r := liOp Try.prog Try.f4 1) rfl li_op1 (I := LiI vs len) (fun ρ h => by rw [li_cx]; exact h.cx hl) hI1.g (li_sp f1) ⟨?_, ?_, ?_, ?_, ?_, ?_, ?_, ?_, ?_, ?_, ?_, ?_, ?_, ?_, ?_, ?_, ?_, ?_, ?_, ?_, ?_, ?_, ?_, ?_, ?_, trivial⟩ hM1
    all_goals
      intro hpc
      replace hpc : pcs ρ1 _ := hpc
      simp only [pcs, pc1, pc2, pc3, pc4, t_lt, t_le, t_eq, t_not, t_and, i_iv, i_il, i_add, i_sub, i_tlen, c_cv, and_true, q4, not_true_eq_false, false_and, and_false, true_and] at hpc
      try (exfalso; omega)
    · intro β1 u1
      exact hI1.next hlt1 rfl rfl rfl rfl rfl RD i8 rfl
    · intro β1 u1
      have RM := R.made (a := ρ1.i 134) (p := ρ1.i 135) hen hid q6 (by omega)
      rw [← eD, ← eH] at RM
      refine hI1.next hlt1 rfl rfl rfl rfl rfl RM ?_ ?_
      · show ((ρ1.c 1).length : Int) + 1 = (((ρ1.c 1 ++ [_]).length : Nat) : Int)
        rw [List.length_append]
        rfl
      · show ((den ρ1 dR).c.length : Int) + 1 = ((den ρ1 mR).c.length : Int)
        omega
  · have q1 : (den ρ1 iH).i < 0 := q1
    have q2 : 0 ≤ (den ρ1 iW).i := q2
    have q3 : 0 ≤ (den ρ1 iR).i := q3
    have q2' : (den ρ1 iW).i < ((ρ1.c 1).length : Int) := q2'
    have q4 : (den ρ1 fH).b = false := q4
    refine round_aft .normal (r := liOp Try.prog Try.f4 1) rfl li_op1 (I := LiI vs len) (fun ρ h => by rw [li_cx]; exact h.cx hl) hI1.g (li_sp f1) ⟨?_, ?_, ?_, ?_, ?_, ?_, ?_, ?_, ?_, ?_, ?_, ?_, ?_, ?_, ?_, ?_, ?_, ?_, ?_, ?_, ?_, ?_, ?_, ?_, ?_, trivial⟩ hM1
    all_goals
      intro hpc
      replace hpc : pcs ρ1 _ := hpc
      simp only [pcs, pc1, pc2, pc3, pc4, t_lt, t_le, t_eq, t_not, t_and, i_iv, i_il, i_add, i_sub, i_tlen, c_cv, and_true, q4, Bool.false_eq_true, not_false_eq_true, false_and, and_false, true_and] at hpc
      try (exfalso; omega)
    · intro β1 u1
      exact hI1.next hlt1 rfl rfl rfl rfl rfl R i8 i9
  · have q1 : (den ρ1 iH).i < 0 := q1
    have q2 : (den ρ1 iW).i < 0 := q2
    have q3 : (den ρ1 iR).i < 0 := q3
    have lM : (den ρ1 mR).c.length = (den ρ1 dR).c.length + 1 := by show ((den ρ1 dR).c ++ [_]).length = _; rw [List.length_append]; rfl
    have aC : (den ρ1 (hN mR)).i = (halfN (den ρ1 mR).c : Int) := d49 f1 mR
    have aD : halfN (den ρ1 mR).c = halfN (den ρ1 dR).c := by
      show ((den ρ1 dR).c ++ [_]).countP _ = _
      rw [List.countP_append]
      rfl
    have q5 : (ρ1.c 1).eraseP (fromD (ρ1.i 134) (ρ1.i 135)) = ρ1.c 1 := q5
    rw [q5] at RD d2
    refine round_aft .normal (r := liOp Try.prog Try.f4 1) rfl li_op1 (I := LiI vs len) (fun ρ h => by rw [li_cx]; exact h.cx hl) hI1.g (li_sp f1) ⟨?_, ?_, ?_, ?_, ?_, ?_, ?_, ?_, ?_, ?_, ?_, ?_, ?_, ?_, ?_, ?_, ?_, ?_, ?_, ?_, ?_, ?_, ?_, ?_, ?_, trivial⟩ hM1
    all_goals
      intro hpc
      replace hpc : pcs ρ1 _ := hpc
      simp only [pcs, pc1, pc2, pc3, pc4, t_lt, t_le, t_eq, t_not, t_and, i_iv, i_il, i_add, i_sub, i_tlen, c_cv, and_true] at hpc
      try (exfalso; omega)
    · intro β1 u1
      exact hI1.next hlt1 rfl rfl rfl rfl rfl RD i8 rfl
    · intro β1 u1
      have RM := R.made (a := ρ1.i 134) (p := ρ1.i 135) hen hid q7 (by omega)
      rw [← eD, ← eH] at RM
      refine hI1.next hlt1 rfl rfl rfl rfl rfl RM ?_ ?_
      · show ((ρ1.c 1).length : Int) + 1 = (((ρ1.c 1 ++ [_]).length : Nat) : Int)
        rw [List.length_append]
        rfl
      · show ((den ρ1 dR).c.length : Int) + 1 = ((den ρ1 mR).c.length : Int)
        omega
set_option maxRecDepth 100000 in
set_option maxHeartbeats 1000000 in
theorem li_r2 (hl : len ≤ 140737488355328) {ρ : Env} (hI : LiI vs len ρ) (hlt : ρ.i 0 < ρ.i 1) {cs : List Value} (hcs : leafAll stepLeaves cs) (hm : intAt cs 0 % 4 = 2) {u : Nat → Value} {β : Bn} {a : Act} {w : World}
    (hM : Md { ρ.hi 100 cs with u := u } (fun _ => False) w0 (fun _ => 0) 0 (liX Try.prog Try.f4) β a w) : ctx Try.prog rowP (saysB Try.f4 liP) (LiQ w0 vs len (saysMu ρ) Q) .normal a w := by
  have hI1 := hI.hi cs u
  have hM1 := li_md hM ⟨xBs 2 ++ liBs, liPc⟩ ⟨fun x hx => (List.mem_append.1 hx).elim (x_bds hcs ρ u hm x) (bdsP_ok (hI1.bs hl) x), pcs_all hI1.pc⟩
  have hlt1 : ({ ρ.hi 100 cs with u := u } : Env).i 0 < ({ ρ.hi 100 cs with u := u } : Env).i 1 := hlt
  have hen : EnOk (({ ρ.hi 100 cs with u := u } : Env).i 134) (({ ρ.hi 100 cs with u := u } : Env).i 135) := by
    obtain ⟨h1, h2⟩ := x_u32 hcs 34 rfl
    obtain ⟨h3, h4⟩ := x_int hcs 35 rfl
    exact ⟨h1, h2, h3, h4⟩
  have hid : IntKind.i64.wrap (({ ρ.hi 100 cs with u := u } : Env).i 101) = ({ ρ.hi 100 cs with u := u } : Env).i 101 := by
    obtain ⟨h1, h2⟩ := x_int hcs 1 rfl
    exact wrap_in (k := .i64) h1 h2
  have hmu : saysMu ρ = saysMu { ρ.hi 100 cs with u := u } := rfl
  rw [hmu]
  generalize ({ ρ.hi 100 cs with u := u } : Env) = ρ1 at hM1 hI1 hlt1 hen hid
  clear hM hI hlt hm hmu hcs
  have he : EnOk (den ρ1 (.iv 134)).i (den ρ1 (.iv 135)).i := hen
  have f1 := hI1.f
  have R := hI1.rel
  have i8 := hI1.i8
  have i9 := hI1.i9
  obtain ⟨n1, n2⟩ := R.cnt
  have hmx := R.hm
  have wmx := R.wm
  have n3 := d49 f1 (.cv 2)
  have n3 : (den ρ1 (hN (.cv 2))).i = (halfN (ρ1.c 2) : Int) := n3
  have RD := R.drop (ρ1.i 134) (ρ1.i 135)
  have eD : (den ρ1 dR).c = dropW (ρ1.i 134) (ρ1.i 135) (ρ1.c 2) := d48 f1 he
  have eH : (den ρ1 dH).c = mDel 2 (keyE (ρ1.i 134) (ρ1.i 135)) (ρ1.c 0) := rfl
  rw [← eD, ← eH] at RD
  obtain ⟨d1, d2⟩ := RD.cnt
  have d3 := d49 f1 dR
  rcases three f1 he R with ⟨q1, q2, q3, q4, q5, q6⟩ | ⟨q1, ⟨q2, q2'⟩, q3, q4, q5⟩ | ⟨q1, q2, q3, q5, q6, q7, q8⟩
  · have q1 : 0 ≤ (den ρ1 iH).i := q1
    have q2 : (den ρ1 iW).i < 0 := q2
    have q3 : 0 ≤ (den ρ1 iR).i := q3
    have q5 : (ρ1.c 1).eraseP (fromD (ρ1.i 134) (ρ1.i 135)) = ρ1.c 1 := q5
    rw [q5] at RD d2
    refine round_aft .normal (r := liOp Try.prog Try.f4 2) rfl li_op2 (I := LiI vs len) (fun ρ h => by rw [li_cx]; exact h.cx hl) hI1.g (li_sp f1) ⟨?_, ?_, ?_, ?_, ?_, ?_, ?_, ?_, ?_, ?_, ?_, ?_, ?_, trivial⟩ hM1
    all_goals
      intro hpc
      replace hpc : pcs ρ1 _ := hpc
      simp only [pcs, pc1, pc2, pc3, pc4, t_lt, t_le, t_eq, t_not, t_and, i_iv, i_il, i_add, i_sub, i_tlen, c_cv, and_true] at hpc
      try (exfalso; omega)
    · intro β1 u1
      exact hI1.next hlt1 rfl rfl rfl rfl rfl RD i8 rfl
  · have q1 : (den ρ1 iH).i < 0 := q1
    have q2 : 0 ≤ (den ρ1 iW).i := q2
    have q3 : 0 ≤ (den ρ1 iR).i := q3
    have q2' : (den ρ1 iW).i < ((ρ1.c 1).length : Int) := q2'
    have q5 : (ρ1.c 1).eraseP (fromD (ρ1.i 134) (ρ1.i 135)) = (den ρ1 eW).c := q5
    rw [q5] at RD d2
    refine round_aft .normal (r := liOp Try.prog Try.f4 2) rfl li_op2 (I := LiI vs len) (fun ρ h => by rw [li_cx]; exact h.cx hl) hI1.g (li_sp f1) ⟨?_, ?_, ?_, ?_, ?_, ?_, ?_, ?_, ?_, ?_, ?_, ?_, ?_, trivial⟩ hM1
    all_goals
      intro hpc
      replace hpc : pcs ρ1 _ := hpc
      simp only [pcs, pc1, pc2, pc3, pc4, t_lt, t_le, t_eq, t_not, t_and, i_iv, i_il, i_add, i_sub, i_tlen, c_cv, and_true] at hpc
      try (exfalso; omega)
    · rw [t_lt]; show (den ρ1 iW).i < ((ρ1.c 1).length : Int); exact q2'
    · intro β1 u1
      exact hI1.next hlt1 rfl rfl rfl rfl rfl RD rfl rfl
  · have q1 : (den ρ1 iH).i < 0 := q1
    have q2 : (den ρ1 iW).i < 0 := q2
    have q3 : (den ρ1 iR).i < 0 := q3
    have q6 : (den ρ1 dH).c = ρ1.c 0 := q6
    have q6l : (den ρ1 dH).c.length = (ρ1.c 0).length := by rw [q6]
    refine round_aft .normal (r := liOp Try.prog Try.f4 2) rfl li_op2 (I := LiI vs len) (fun ρ h => by rw [li_cx]; exact h.cx hl) hI1.g (li_sp f1) ⟨?_, ?_, ?_, ?_, ?_, ?_, ?_, ?_, ?_, ?_, ?_, ?_, ?_, trivial⟩ hM1
    all_goals
      intro hpc
      replace hpc : pcs ρ1 _ := hpc
      simp only [pcs, pc1, pc2, pc3, pc4, t_lt, t_le, t_eq, t_not, t_and, i_iv, i_il, i_add, i_sub, i_tlen, c_cv, and_true] at hpc
      try (exfalso; omega)
    · intro β1 u1
      refine hI1.next hlt1 rfl rfl rfl rfl rfl ?_ i8 i9
      show RelL _ (den ρ1 dH).c _ _
      rw [q6]
      exact R
set_option maxRecDepth 100000 in
set_option maxHeartbeats 1000000 in
theorem li_r3 (hl : len ≤ 140737488355328) {ρ : Env} (hI : LiI vs len ρ) (hlt : ρ.i 0 < ρ.i 1) {cs : List Value} (hcs : leafAll stepLeaves cs) (hm : intAt cs 0 % 4 = 3) {u : Nat → Value} {β : Bn} {a : Act} {w : World}
    (hM : Md { ρ.hi 100 cs with u := u } (fun _ => False) w0 (fun _ => 0) 0 (liX Try.prog Try.f4) β a w) : ctx Try.prog rowP (saysB Try.f4 liP) (LiQ w0 vs len (saysMu ρ) Q) .normal a w := by
  have hI1 := hI.hi cs u
  have hM1 := li_md hM ⟨xBs 3 ++ liBs, liPc⟩ ⟨fun x hx => (List.mem_append.1 hx).elim (x_bds hcs ρ u hm x) (bdsP_ok (hI1.bs hl) x), pcs_all hI1.pc⟩
  have hlt1 : ({ ρ.hi 100 cs with u := u } : Env).i 0 < ({ ρ.hi 100 cs with u := u } : Env).i 1 := hlt
  have hen : EnOk (({ ρ.hi 100 cs with u := u } : Env).i 134) (({ ρ.hi 100 cs with u := u } : Env).i 135) := by
    obtain ⟨h1, h2⟩ := x_u32 hcs 34 rfl
    obtain ⟨h3, h4⟩ := x_int hcs 35 rfl
    exact ⟨h1, h2, h3, h4⟩
  have hid : IntKind.i64.wrap (({ ρ.hi 100 cs with u := u } : Env).i 101) = ({ ρ.hi 100 cs with u := u } : Env).i 101 := by
    obtain ⟨h1, h2⟩ := x_int hcs 1 rfl
    exact wrap_in (k := .i64) h1 h2
  have hmu : saysMu ρ = saysMu { ρ.hi 100 cs with u := u } := rfl
  rw [hmu]
  generalize ({ ρ.hi 100 cs with u := u } : Env) = ρ1 at hM1 hI1 hlt1 hen hid
  clear hM hI hlt hm hmu hcs
  have he : EnOk (den ρ1 (.iv 134)).i (den ρ1 (.iv 135)).i := hen
  have f1 := hI1.f
  have R := hI1.rel
  have i8 := hI1.i8
  have i9 := hI1.i9
  obtain ⟨n1, n2⟩ := R.cnt
  have hmx := R.hm
  have wmx := R.wm
  have n3 := d49 f1 (.cv 2)
  have n3 : (den ρ1 (hN (.cv 2))).i = (halfN (ρ1.c 2) : Int) := n3
  have e51 : (den ρ1 tR).c = tkL (ρ1.c 2) := d51 f1
  have n4 := d49 f1 tR
  have g0 := d50 f1 0
  have g1 := d50 f1 1
  have g3 := d50 f1 3
  have g4 := d50 f1 4
  rw [e51] at n4
  by_cases hw : (ρ1.c 1).length = 0
  · obtain ⟨k1, k2⟩ := R.take0 hw
    have z0 : (tkD (ρ1.c 2) 0).i = 0 := by unfold tkD; rw [if_pos k1]; rfl
    have z1 : (tkD (ρ1.c 2) 1).i = 0 := by unfold tkD; rw [if_pos k1]; rfl
    have z3 : (tkD (ρ1.c 2) 3).i = 0 := by unfold tkD; rw [if_pos k1]; rfl
    have z4 : (tkD (ρ1.c 2) 4).i = 14 := by unfold tkD; rw [if_pos k1]; rfl
    rw [k2] at e51 n4
    have l51 : (den ρ1 tR).c.length = (ρ1.c 2).length := by rw [e51]
    refine round_aft .normal (r := liOp Try.prog Try.f4 3) rfl li_op3 (I := LiI vs len) (fun ρ h => by rw [li_cx]; exact h.cx hl) hI1.g (li_sp f1) ⟨?_, ?_, ?_, ?_, ?_, ?_, ?_, ?_, ?_, ?_, ?_, ?_, ?_, ?_, trivial⟩ hM1
    all_goals
      intro hpc
      replace hpc : pcs ρ1 _ := hpc
      simp only [pcs, pc1, pc2, pc3, pc4, t_lt, t_le, t_eq, t_not, t_and, i_iv, i_il, i_add, i_sub, i_tlen, c_cv, and_true] at hpc
      try (exfalso; omega)
    intro β1 u1
    refine hI1.next hlt1 rfl rfl rfl rfl rfl ?_ i8 rfl
    show RelL _ _ _ (den ρ1 tR).c
    rw [e51]
    exact R
  · obtain ⟨RT, k1, k2⟩ := R.take (by omega)
    have z0 : (tkD (ρ1.c 2) 0).i = gI .u32 (tkRow (ρ1.c 2)) 0 := by unfold tkD; rw [if_neg k1]; rfl
    have z1 : (tkD (ρ1.c 2) 1).i = gI .i64 (tkRow (ρ1.c 2)) 1 := by unfold tkD; rw [if_neg k1]; rfl
    have z3 : (tkD (ρ1.c 2) 3).i = gI .i64 (tkRow (ρ1.c 2)) 3 := by unfold tkD; rw [if_neg k1]; rfl
    have z4 : (tkD (ρ1.c 2) 4).i = 0 := by unfold tkD; rw [if_neg k1]; rfl
    have y0 : (den ρ1 w0T).i = gI .i64 (tkRow (ρ1.c 2)) 3 := by
      show gI .i64 ((ρ1.c 1).getD 0 []) 0 = _
      rw [k2]
      exact gI_idem .i64 .i64 _ 3 rfl
    have y1 : (den ρ1 w1T).i = gI .u32 (tkRow (ρ1.c 2)) 0 := by
      show gI .u32 ((ρ1.c 1).getD 0 []) 1 = _
      rw [k2]
      exact gI_idem .u32 .u32 _ 0 rfl
    have y2 : (den ρ1 w2T).i = gI .i64 (tkRow (ρ1.c 2)) 1 := by
      show gI .i64 ((ρ1.c 1).getD 0 []) 2 = _
      rw [k2]
      exact gI_idem .i64 .i64 _ 1 rfl
    have e52 : (den ρ1 eW0).c = (ρ1.c 1).eraseIdx 0 := d52 f1 (.il 0)
    rw [← e51] at RT n4
    rw [← e52] at RT
    obtain ⟨d1, d2⟩ := RT.cnt
    refine round_aft .normal (r := liOp Try.prog Try.f4 3) rfl li_op3 (I := LiI vs len) (fun ρ h => by rw [li_cx]; exact h.cx hl) hI1.g (li_sp f1) ⟨?_, ?_, ?_, ?_, ?_, ?_, ?_, ?_, ?_, ?_, ?_, ?_, ?_, ?_, trivial⟩ hM1
    all_goals
      intro hpc
      replace hpc : pcs ρ1 _ := hpc
      simp only [pcs, pc1, pc2, pc3, pc4, t_lt, t_le, t_eq, t_not, t_and, i_iv, i_il, i_add, i_sub, i_tlen, c_cv, and_true] at hpc
      try (exfalso; omega)
    · rw [t_lt]; show (0 : Int) < ρ1.i 8; omega
    · rw [t_lt]; show (0 : Int) < ((ρ1.c 1).length : Int); omega
    · intro β1 u1
      exact hI1.next hlt1 rfl rfl rfl rfl rfl RT rfl rfl
end
end Go.Proofs.Ytnjpoidpfcfbeaa
