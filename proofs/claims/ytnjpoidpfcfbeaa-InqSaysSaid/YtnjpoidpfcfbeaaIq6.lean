/- The reference's Read. -/
import Derived.Test.YtnjpoidpfcfbeaaIq5
namespace Go.Proofs.Ytnjpoidpfcfbeaa
open Go.RowKit Sy
set_option linter.unusedVariables false
set_option linter.unusedSimpArgs false

def byteM (L : List (List Value)) (p : Int) : Int := match lookM L p with
  | some b => b
  | none => 0
def rdS (m : Int → Int) (p : Int) : Nat → ByteArray
  | 0 => none8
  | k + 1 => rdS m p k ++ chrOf (m (p + k))
theorem chrOf_size (n : Int) : (chrOf n).size = 1 := rfl
theorem rdS_size (m : Int → Int) (p : Int) : ∀ k, (rdS m p k).size = k
  | 0 => rfl
  | k + 1 => by
    show (rdS m p k ++ chrOf (m (p + k))).size = k + 1
    rw [ByteArray.size_append, rdS_size m p k, chrOf_size]
def rdN (L : List (List Value)) (read most : Int) : Int := min (max most 0) (gap L read - read)
def pkT (t x : Tm) : Tm := .ite (inC t x) (.tb (.get (.int .u8) 1) t (mapIx 1 t (.tb (.cons (.int .i64)) x trow (.il 0))) (.il 0)) (.il 0)
theorem fM_look : ∀ {L : List (List Value)} (_ : GoodM L) {p : Int} {j : Nat}, inM L p = some j → ∃ k b, L.getD j [] = [.int .i64 k, .int .u8 b] ∧ (Lit.int .u8 b).wf = true ∧ lookM L p = some b
  | [], _, p, j, h => by cases h
  | r :: l, hg, p, j, h => by
    obtain ⟨k, b, rfl, _, hb⟩ := row_form (hg r (List.mem_cons_self ..))
    rw [inM_cons] at h
    split at h
    · rename_i q
      injection h with h
      subst h
      exact ⟨k, b, rfl, hb, if_pos q⟩
    · rename_i q
      obtain ⟨i, hi, e⟩ := Option.map_eq_some_iff.1 h
      subst e
      obtain ⟨k', b', h1, h2, h3⟩ := fM_look (fun r hr => hg r (List.mem_cons_of_mem _ hr)) hi
      refine ⟨k', b', h1, h2, ?_⟩
      show (if k = p then some b else lookM l p) = _
      rw [if_neg q]
      exact h3
theorem pk_den {ρ : Env} {t x : Tm} (hg : GoodM (den ρ t).c) : (den ρ (pkT t x)).i = byteM (den ρ t).c (den ρ x).i := by
  rw [pkT, i_ite]
  have hq := inC_ok (ρ := ρ) t x
  unfold byteM
  cases h : inM (den ρ t).c (den ρ x).i with
  | none =>
    rw [if_neg (fun q => by rw [hq] at q; exact q h), (look_in hg _).1 h]
    rfl
  | some j =>
    rw [if_pos (by rw [hq, h]; simp)]
    obtain ⟨k, b, h1, h2, h3⟩ := fM_look hg h
    rw [h3]
    rw [i_get, mapIx_den (k := kR (den ρ x).i) rfl]
    have : mIx 1 (kR (den ρ x).i) (den ρ t).c = (j : Int) := by
      unfold mIx
      rw [show fM 1 (kR (den ρ x).i) (den ρ t).c = some j from h]
    rw [this, Int.toNat_natCast, h1]
    have hw := of_wf h2
    exact wrap_in hw.1 hw.2
def rdP : List Nat := [1, 1, 1, 0, 1, 2]
def rdBs : List Bd := [B61 (.iv 0), B61 (.iv 1), B61 (kmT (.cv 0)), I64 (.iv 2)]
def rdSt : Sy.St := ⟨[], [inO 0 2 true (.iv 0) (.iv 1), inT 2 true (.cv 0)], ⟨rdBs, []⟩, 4⟩
def rdA : List SV := [.one (.c (.ptr 0 0)), iI 2]
def rd0 (P : Program) (fn : Func) : Rs := run P [bySp] 10 400 4 (.code (pre rdP (bodyOf fn))) (enterS fn rdA rdSt)
def rdLp : List Bd := [B61 (.iv 4), B61 (.iv 3), ⟨.iv 5, 0, 2305843009213693953⟩, ⟨.len (.sv 1), 0, 2305843009213693952⟩]
def rdSv : SV := .one (.c (.str (.sv 1)))
def rdT (P : Program) (fn : Func) : Sy.St := tplK (lfAt (rd0 P fn) 0) [0] [(6, rdSv), (12, iI 4), (13, iI 3)] [inO 0 2 true (.iv 5) (.iv 1)] ⟨rdLp, []⟩ 10
def rd1 (P : Program) (fn : Func) : Rs := run P [] 10 400 4 (.code (lpBody (Sy.sub rdP (bodyOf fn)))) (rdT P fn)
def rdR : Tm := .sub (.ap 30 (.cv 0) (.iv 0) (.il 0)) (.iv 0)
def rdMx : Tm := .ite (.lt (.iv 2) (.il 0)) (.il 0) (.iv 2)
set_option maxRecDepth 100000 in
theorem rd_run0 : shR 4 none (rd0 Try.prog Try.f14) = some [.out 0 .normal []] := by kernel_rfl
set_option maxRecDepth 100000 in
theorem rd_match : (matchS 4 (rdT Try.prog Try.f14) (lfAt (rd0 Try.prog Try.f14) 0)).map noU = some [.s 1 (.sl []), .i 4 (.ite (.lt rdR rdMx) rdR rdMx), .i 3 (.il 0), .i 5 (.iv 0)] := by kernel_rfl
def rdB : List As := [.s 1 (.app (.sv 1) (.chr (pkT (.cv 0) (.iv 5)))), .i 3 (.add (.iv 3) (.il 1)), .i 5 (.add (.iv 5) (.il 1))]
set_option maxRecDepth 100000 in
theorem rd_run1 : shR 4 (some (rdT Try.prog Try.f14)) (rd1 Try.prog Try.f14) = some [.back rdB [.lt (.iv 3) (.iv 4)], .out 1 (.exit 0) [.not (.lt (.iv 3) (.iv 4))]] := by kernel_rfl
set_option maxRecDepth 100000 in
theorem rd_loop : Code.loop (lpBody (Sy.sub rdP (bodyOf Try.f14))) = Sy.sub rdP (bodyOf Try.f14) := by kernel_rfl
set_option maxRecDepth 100000 in
theorem rd_cx : (rdT Try.prog Try.f14).cx = ⟨rdLp, []⟩ := by kernel_rfl
set_option maxRecDepth 100000 in
theorem rd_fin : smR Try.prog Try.f14 4 (run Try.prog [] 10 400 4 (.code (aft (.exit 0) rdP (bodyOf Try.f14))) (lfAt (rd1 Try.prog Try.f14) 1)) = some [.ret rdSv [inO 0 2 true (.iv 5) (.iv 1), inT 2 true (.cv 0)] [.not (.lt (.iv 3) (.iv 4))]] := by kernel_rfl
structure RdIn (L : List (List Value)) (read fin most : Int) : Prop where
  g : GoodM L
  k : keyMax L ≤ 1153202979583557632
  r0 : 0 ≤ read
  r1 : read ≤ 1153202979583557632
  f0 : 0 ≤ fin
  f1 : fin ≤ 1153202979583557632
  a0 : -9223372036854775808 ≤ most
  a1 : most ≤ 9223372036854775807
def RdPost (w : World) (g gm : Nat) (L : List (List Value)) (read fin most : Int) (v : Value) (w' : World) : Prop :=
  v = .string (rdS (byteM L) read (rdN L read most).toNat) ∧ Blk w' g 108 (inCells gm (read + rdN L read most) fin) ∧ MapT w' gm [.int .i64] false (.int .u8) L ∧ Only (fun x => x = g ∨ x = gm) w w'
section
variable {L : List (List Value)} {read fin most : Int} {w : World} {g gm : Nat}
structure RdI (L : List (List Value)) (read fin most : Int) (ρ : Env) : Prop where
  g : ρ.good
  c0 : ρ.c 0 = L
  i1 : ρ.i 1 = fin
  i4 : ρ.i 4 = rdN L read most
  n0 : 0 ≤ ρ.i 3
  n1 : ρ.i 3 ≤ rdN L read most
  i5 : ρ.i 5 = read + ρ.i 3
  s1 : ρ.s 1 = rdS (byteM L) read (ρ.i 3).toNat
theorem rdN_rng (h : RdIn L read fin most) : 0 ≤ rdN L read most ∧ rdN L read most ≤ 1153202979583557632 ∧ read + rdN L read most ≤ 1153202979583557632 := by
  have := gap_le h.g read
  have := (gap_spec h.g read).1
  have := h.k
  have := h.r1
  have := h.r0
  unfold rdN
  omega
theorem RdI.cx (h : RdIn L read fin most) {ρ : Env} (I : RdI L read fin most ρ) : (rdT Try.prog Try.f14).cx.ok ρ := by
  rw [rd_cx]
  have hr := rdN_rng h
  have e4 := I.i4
  have n0 := I.n0
  have n1 := I.n1
  have e5 := I.i5
  have r0 := h.r0
  have r1 := h.r1
  refine cxP ⟨?_, ?_, ?_, ?_, trivial⟩ trivial
  · show 0 ≤ ρ.i 4 ∧ ρ.i 4 ≤ 2305843009213693952; omega
  · show 0 ≤ ρ.i 3 ∧ ρ.i 3 ≤ 2305843009213693952; omega
  · show 0 ≤ ρ.i 5 ∧ ρ.i 5 ≤ 2305843009213693953; omega
  · show (0 : Int) ≤ ((ρ.s 1).size : Int) ∧ ((ρ.s 1).size : Int) ≤ 2305843009213693952
    rw [I.s1, rdS_size]; omega
set_option maxRecDepth 100000 in
theorem rread_calls (h : RdIn L read fin most) (hO : Blk w g 108 (inCells gm read fin)) (hT : MapT w gm [.int .i64] false (.int .u8) L) (hne : g ≠ gm) :
    Calls Try.prog 14 #[.pointer (some ⟨g, 0, none⟩), .int .i64 most] w (RetP (RdPost w g gm L read fin most)) := by
  let ρ0 : Env := ⟨fun n => if n = 0 then read else if n = 1 then fin else most, fun _ => false, fun _ => none8, inF, fun _ => .bool false, fun _ => .bool false, fun _ => L⟩
  have hk0 := keyMax_nonneg L
  have hcx : rdSt.cx.ok ρ0 := by
    have r0 := h.r0
    have r1 := h.r1
    have f0 := h.f0
    have f1 := h.f1
    have a0 := h.a0
    have a1 := h.a1
    have hk := h.k
    refine cxP ⟨?_, ?_, ?_, ?_, trivial⟩ trivial
    · show 0 ≤ read ∧ read ≤ 2305843009213693952; omega
    · show 0 ≤ fin ∧ fin ≤ 2305843009213693952; omega
    · show 0 ≤ keyMax L ∧ keyMax L ≤ 2305843009213693952; omega
    · show -9223372036854775808 ≤ most ∧ most ≤ 9223372036854775807; omega
  have hM0 : Md ρ0 (S2 g gm) w (bn2 g gm) 4 rdSt (bn2 g gm) ⟨#[], []⟩ w := Sy.Md.init ⟨hO, hT, trivial⟩ ⟨⟨fun _ _ => hne, trivial⟩, trivial, trivial⟩ ⟨fun _ _ => .inl rfl, fun _ _ => .inr rfl, trivial⟩ hcx rfl
  refine calls_pre (B := ⟨ρ0, S2 g gm, w, bn2 g gm, 4⟩) (sp := [bySp]) (p := rdP) (xs := rdA) (s := rdSt) (r := rd0 Try.prog Try.f14) (fun i => rfl) (by_ok rfl) rfl Try.func14 rfl rfl rd_run0 hM0 ⟨?_, trivial⟩ rfl
  intro _ β a w1 hM1
  show (Sy.sub rdP (bodyOf Try.f14)).wp Try.prog _ a w1
  rw [← rd_loop]
  have hr := rdN_rng h
  have hI1 : ∀ u, RdI L read fin most { ρ0.sub β [.s 1 (.sl []), .i 4 (.ite (.lt rdR rdMx) rdR rdMx), .i 3 (.il 0), .i 5 (.iv 0)] with u := u } := fun u => by
    refine ⟨fun i => rfl, rfl, rfl, ?_, Int.le_refl 0, hr.1, ?_, rfl⟩
    · show (den ρ0 (.ite (.lt rdR rdMx) rdR rdMx)).i = _
      rw [i_min, rdMx, i_max]
      show min (gap L read - read) (max most 0) = min (max most 0) (gap L read - read)
      omega
    · show read = read + 0; omega
  obtain ⟨u, β', hM2⟩ := Sy.Md.enter hM1 rd_match fun u => (hI1 u).cx h
  refine loop_wp (w0 := w) (r := rd1 Try.prog Try.f14) rfl rd_run1 (RdI L read fin most) (fun ρ => (rdN L read most - ρ.i 3).toNat) (fun ρ I => I.g) (fun ρ I q hq => by cases hq) (fun ρ I => I.cx h) ?_ (hI1 u) hM2
  intro ρ I
  have n0 := I.n0
  have n1 := I.n1
  have e4 := I.i4
  have e5 := I.i5
  refine ⟨?_, ?_, trivial⟩
  all_goals
    intro hpc
    replace hpc : pcs ρ _ := hpc
    simp only [pcs, t_lt, t_not, i_iv, e4, and_true] at hpc
  · intro β u
    have et : (ρ.i 3 + 1).toNat = (ρ.i 3).toNat + 1 := by omega
    refine ⟨⟨I.g, I.c0, I.i1, I.i4, ?_, ?_, ?_, ?_⟩, ?_⟩
    · show 0 ≤ ρ.i 3 + 1; omega
    · show ρ.i 3 + 1 ≤ _; omega
    · show ρ.i 5 + 1 = read + (ρ.i 3 + 1); omega
    · show ρ.s 1 ++ chrOf (den ρ (pkT (.cv 0) (.iv 5))).i = rdS (byteM L) read (ρ.i 3 + 1).toNat
      have hg : GoodM (den ρ (.cv 0)).c := by
        show GoodM (ρ.c 0)
        rw [I.c0]; exact h.g
      rw [pk_den hg, et, I.s1]
      show _ ++ chrOf (byteM (ρ.c 0) (ρ.i 5)) = rdS (byteM L) read (ρ.i 3).toNat ++ chrOf (byteM L (read + (ρ.i 3).toNat))
      rw [I.c0, e5, show read + ((ρ.i 3).toNat : Int) = read + ρ.i 3 from by omega]
    · show (rdN L read most - (ρ.i 3 + 1)).toNat < (rdN L read most - ρ.i 3).toNat; omega
  · intro β a w' hM
    refine aft_fin (B := ⟨ρ, S2 g gm, w, bn2 g gm, 4⟩) I.g (fun q hq => by cases hq) rfl (.exit 0) rd_fin ⟨?_, trivial⟩ hM
    intro _ β2 w2 hH
    have en : ρ.i 3 = rdN L read most := by omega
    refine ⟨?_, ?_, ?_, hH.only⟩
    · show Value.string (ρ.s 1) = _
      rw [I.s1, en]
    · have := hH.hp _ (List.mem_cons_self ..)
      have : Blk w2 (β2 0) 108 (inCells (β2 2) (ρ.i 5) (ρ.i 1)) := this
      rw [hH.old 0 (show 0 < 4 by decide), hH.old 2 (show 2 < 4 by decide), e5, en, I.i1] at this
      exact this
    · have := hH.hp _ (List.mem_cons_of_mem _ (List.mem_cons_self ..))
      have : MapT w2 (β2 2) [.int .i64] false (.int .u8) (ρ.c 0) := this
      rw [hH.old 2 (show 2 < 4 by decide), I.c0] at this
      exact this
end
end Go.Proofs.Ytnjpoidpfcfbeaa
