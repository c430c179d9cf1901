/- Find of the program's table: what it finds. -/
import Derived.Test.YthjigajielhkfaaPg0
namespace Go.Proofs.Ythjigajielhkfaa
open Go.RowKit Sy
set_option linter.unusedVariables false
set_option linter.unusedSimpArgs false

/-- Is it a bound of that protocol, at that end, with that other end? -/
def fQ (p la lp ra rp : Int) (a : List Value) : Bool := decide (gI .i64 a 0 = p ∧ (gI .u32 a 1 = la ∧ gI .i64 a 2 = lp) ∧ (gI .u32 a 3 = ra ∧ gI .i64 a 4 = rp))
def ownR (a : List Value) : List Value := [.int .i64 (gI .i64 a 6)]
def fOwn (q : List Value → Bool) (rows : List (List Value)) : List (List Value) := (rows.filter q).map ownR
def pickO (l : List (List Value)) (n : Int) : Value := .tuple #[.int .i64 (gI .i64 (l.getD (n % (l.length : Int)).toNat []) 0), .bool true]
/-- What Find answers. -/
def findV (rows : List (List Value)) (p la lp ra rp n : Int) : Value :=
  if fOwn (fQ p la lp ra rp) rows ≠ [] then pickO (fOwn (fQ p la lp ra rp) rows) n
  else if fOwn (fQ p la lp 0 0) rows ≠ [] then pickO (fOwn (fQ p la lp 0 0) rows) n
  else if fOwn (fQ p 0 lp 0 0) rows ≠ [] then pickO (fOwn (fQ p 0 lp 0 0) rows) n
  else .tuple #[.int .i64 0, .bool false]
theorem fOwn_next {q : List Value → Bool} {l : List (List Value)} {j : Nat} (h : j < l.length) : fOwn q (l.take (j + 1)) = fOwn q (l.take j) ++ if q (l.getD j []) = true then [ownR (l.getD j [])] else [] := by
  unfold fOwn
  rw [take_next h, List.filter_append, List.map_append]
  congr 1
  generalize l.getD j [] = a
  cases hq : q a <;> simp [hq]
theorem fOwn_len (q : List Value → Bool) (l : List (List Value)) : (fOwn q l).length ≤ l.length := by
  unfold fOwn
  rw [List.length_map]
  exact List.length_filter_le ..
structure FiI (rows : List (List Value)) (p la lp ra rp n : Int) (ρ : Env) : Prop where
  g : ρ.good
  c0 : ρ.c 0 = rows
  i20 : ρ.i 20 = p
  i21 : ρ.i 21 = la
  i22 : ρ.i 22 = lp
  i23 : ρ.i 23 = ra
  i24 : ρ.i 24 = rp
  i26 : ρ.i 26 = n
/-- Of what size the numbers are. -/
structure FiOk (p la lp ra rp n : Int) : Prop where
  p : -9223372036854775808 ≤ p ∧ p ≤ 9223372036854775807
  la : 0 ≤ la ∧ la ≤ 4294967295
  lp : -9223372036854775808 ≤ lp ∧ lp ≤ 9223372036854775807
  ra : 0 ≤ ra ∧ ra ≤ 4294967295
  rp : -9223372036854775808 ≤ rp ∧ rp ≤ 9223372036854775807
  n : 0 ≤ n ∧ n ≤ 18446744073709551615
section
variable {rows : List (List Value)} {p la lp ra rp n : Int} {ρ : Env}
theorem FiI.bs (I : FiI rows p la lp ra rp n ρ) (h : FiOk p la lp ra rp n) (hn : rows.length ≤ 4000) : Bds ρ fiBs := by
  intro x hx
  change x ∈ [_, _, _, _, _, _, _] at hx
  simp only [List.mem_cons, List.not_mem_nil, or_false] at hx
  rcases hx with rfl | rfl | rfl | rfl | rfl | rfl | rfl
  · show (0 : Int) ≤ (((ρ.c 0).length : Nat) : Int) ∧ (((ρ.c 0).length : Nat) : Int) ≤ 4000
    rw [I.c0]
    omega
  · show _ ≤ ρ.i 20 ∧ ρ.i 20 ≤ _
    rw [I.i20]
    exact h.p
  · show _ ≤ ρ.i 21 ∧ ρ.i 21 ≤ _
    rw [I.i21]
    exact h.la
  · show _ ≤ ρ.i 22 ∧ ρ.i 22 ≤ _
    rw [I.i22]
    exact h.lp
  · show _ ≤ ρ.i 23 ∧ ρ.i 23 ≤ _
    rw [I.i23]
    exact h.ra
  · show _ ≤ ρ.i 24 ∧ ρ.i 24 ≤ _
    rw [I.i24]
    exact h.rp
  · show _ ≤ ρ.i 26 ∧ ρ.i 26 ≤ _
    rw [I.i26]
    exact h.n
structure FpJ (rows : List (List Value)) (p la lp ra rp n : Int) (q : List Value → Bool) (ρ : Env) : Prop where
  I : FiI rows p la lp ra rp n ρ
  j0 : 0 ≤ ρ.i 0
  jn : ρ.i 0 ≤ (rows.length : Int)
  c1 : ρ.c 1 = fOwn q (rows.take (ρ.i 0).toNat)
  i1 : ρ.i 1 = ((ρ.c 1).length : Int)
theorem FpJ.cx {q : List Value → Bool} (J : FpJ rows p la lp ra rp n q ρ) (h : FiOk p la lp ra rp n) (hn : rows.length ≤ 4000) : fpCx.ok ρ := by
  have j0 := J.j0
  have jn := J.jn
  have i1 := J.i1
  have c0 : (ρ.c 0).length = rows.length := by rw [J.I.c0]
  have hc1 : (ρ.c 1).length ≤ rows.length := by
    rw [J.c1]
    refine Nat.le_trans (fOwn_len _ _) ?_
    rw [List.length_take]
    omega
  refine ⟨fun x hx => ?_, fun t ht => ?_⟩
  · change x ∈ _ :: _ :: _ :: fiBs at hx
    rcases List.mem_cons.1 hx with rfl | hx
    · show (0 : Int) ≤ ρ.i 0 ∧ ρ.i 0 ≤ 4000
      omega
    rcases List.mem_cons.1 hx with rfl | hx
    · show (0 : Int) ≤ ρ.i 1 ∧ ρ.i 1 ≤ 4000
      omega
    rcases List.mem_cons.1 hx with rfl | hx
    · show (0 : Int) ≤ (((ρ.c 1).length : Nat) : Int) ∧ (((ρ.c 1).length : Nat) : Int) ≤ 4000
      omega
    · exact J.I.bs h hn x hx
  · change t ∈ [_, _, _] at ht
    simp only [List.mem_cons, List.not_mem_nil, or_false] at ht
    rcases ht with rfl | rfl | rfl
    · rw [t_le]; show ρ.i 0 ≤ (((ρ.c 0).length : Nat) : Int); omega
    · rw [t_le]; show ρ.i 1 ≤ (((ρ.c 1).length : Nat) : Int); omega
    · rw [t_le]; show (((ρ.c 1).length : Nat) : Int) ≤ ρ.i 1; omega
set_option maxRecDepth 100000 in
set_option maxHeartbeats 1000000 in
theorem fp_round {i : Int} {A B C : Tm} {LA RA RP : Int} (E : FpRound Try.prog Try.f116 i A B C) (h : FiOk p la lp ra rp n) (hn : rows.length ≤ 4000)
    (hA : ∀ ρ, FiI rows p la lp ra rp n ρ → (den ρ A).i = LA) (hB : ∀ ρ, FiI rows p la lp ra rp n ρ → (den ρ B).i = RA) (hC : ∀ ρ, FiI rows p la lp ra rp n ρ → (den ρ C).i = RP)
    {w0 : World} {β0 : Bn} (I : FiI rows p la lp ra rp n ρ) {β : Bn} {a : Act} {w : World} (hM : Md ρ (fun _ => False) w0 β0 50 (fpT Try.prog Try.f116 i) β a w) {Q : Exit → Act → World → Prop}
    (hr : fOwn (fQ p LA lp RA RP) rows ≠ [] → ∀ ρ' β' a' w', FiI rows p la lp ra rp n ρ' → ρ'.c 1 = fOwn (fQ p LA lp RA RP) rows → ρ'.i 1 = ((ρ'.c 1).length : Int) → Md ρ' (fun _ => False) w0 β0 50 (lfAt (fp3 Try.prog Try.f116 i) 2) β' a' w' → Q .ret a' w')
    (hno : fOwn (fQ p LA lp RA RP) rows = [] → ∀ ρ' β' a' w', FiI rows p la lp ra rp n ρ' → Md ρ' (fun _ => False) w0 β0 50 (fpT Try.prog Try.f116 (i + 1)) β' a' w' → Q .normal a' w') :
    (fpC Try.f116).wp Try.prog Q a w := by
  refine part_pre (B := ⟨ρ, fun _ => False, w0, β0, 50⟩) (r := fp1 Try.prog Try.f116 i) I.g (fun q hq => by cases hq) rfl (p := fpQ) rfl E.run1 ?_ hM
  refine ⟨?_, trivial⟩
  intro _ β1 a1 w1 hM1
  show (Sy.sub fpQ (fpC Try.f116)).wp Try.prog _ a1 w1
  rw [← fp_loop2]
  obtain ⟨fr1, fr2⟩ := Prod.mk.inj E.free
  obtain ⟨β2, hM2⟩ := Sy.Md.tabSlot hM1 15 80 3 [.int .i64] (show 50 ≤ 80 by decide) fr1 fr2
  have hJ1 : ∀ u, FpJ rows p la lp ra rp n (fQ p LA lp RA RP) { ρ.sub β2 [.i 1 (.il 0), .i 0 (.il 0), .c 1 tn] with u := u } := fun u => by
    refine ⟨⟨I.g, I.c0, I.i20, I.i21, I.i22, I.i23, I.i24, I.i26⟩, Int.le_refl 0, show (0 : Int) ≤ _ by omega, ?_, rfl⟩
    show [] = fOwn _ (rows.take (0 : Int).toNat)
    rfl
  obtain ⟨u, β3, hM3⟩ := Sy.Md.enter hM2 E.mtch fun u => (hJ1 u).cx h hn
  refine loop_wp (w0 := w0) (r := fp2 Try.prog Try.f116 i) rfl E.run2 (FpJ rows p la lp ra rp n (fQ p LA lp RA RP)) (fun ρ => rows.length - (ρ.i 0).toNat) (fun ρ J => J.I.g) (fun ρ J q hq => by cases hq) (fun ρ J => J.cx h hn) ?_ (hJ1 u) hM3
  intro ρ2 J
  have j0 := J.j0
  have jn := J.jn
  have i1 := J.i1
  have c0 := J.I.c0
  have eA := hA ρ2 J.I
  have eB := hB ρ2 J.I
  have eC := hC ρ2 J.I
  have e20 := J.I.i20
  have e22 := J.I.i22
  have back : fQ p LA lp RA RP (rows.getD (ρ2.i 0).toNat []) = false → ρ2.i 0 < (rows.length : Int) → ∀ β u, FpJ rows p la lp ra rp n (fQ p LA lp RA RP) { ρ2.sub β [.i 0 (.add (.iv 0) (.il 1))] with u := u } ∧ rows.length - (({ ρ2.sub β [.i 0 (.add (.iv 0) (.il 1))] with u := u } : Env).i 0).toNat < rows.length - (ρ2.i 0).toNat := fun hq hlt β u => by
    have et : (ρ2.i 0 + 1).toNat = (ρ2.i 0).toNat + 1 := by omega
    refine ⟨⟨⟨J.I.g, J.I.c0, J.I.i20, J.I.i21, J.I.i22, J.I.i23, J.I.i24, J.I.i26⟩, ?_, ?_, ?_, i1⟩, ?_⟩
    · show 0 ≤ ρ2.i 0 + 1; omega
    · show ρ2.i 0 + 1 ≤ _; omega
    · show ρ2.c 1 = fOwn _ (rows.take (ρ2.i 0 + 1).toNat)
      rw [et, fOwn_next (by omega), hq, if_neg (by decide), List.append_nil]
      exact J.c1
    · show rows.length - (ρ2.i 0 + 1).toNat < rows.length - (ρ2.i 0).toNat; omega
  refine ⟨?_, ?_, ?_, ?_, ?_, trivial⟩
  all_goals
    intro hpc
    replace hpc : pcs ρ2 _ := hpc
    simp only [fcR, fcL, fcP, fpN, fpPc, tlen, pcs, t_lt, t_le, t_eq, t_not, t_and, i_iv, i_il, i_tl, i_get, c_cv, c0, gI_def, eA, eB, eC, e20, e22, and_true] at hpc
  · intro β u
    have hj : (ρ2.i 0).toNat < rows.length := by omega
    have hq : fQ p LA lp RA RP (rows.getD (ρ2.i 0).toNat []) = true := by
      unfold fQ
      rw [decide_eq_true_eq]
      exact ⟨hpc.2.2.1, hpc.2.1, hpc.1⟩
    have et : (ρ2.i 0 + 1).toNat = (ρ2.i 0).toNat + 1 := by omega
    have hc1 : ({ ρ2.sub β [.i 1 (.add (tlen (.cv 1)) (.il 1)), .i 0 (.add (.iv 0) (.il 1)), .c 1 (.tb .app (.cv 1) fcRow (.il 0))] with u := u } : Env).c 1 = ρ2.c 1 ++ [ownR (rows.getD (ρ2.i 0).toNat [])] := by
      show ρ2.c 1 ++ [[Value.int .i64 (gI .i64 ((ρ2.c 0).getD (ρ2.i 0).toNat []) 6)]] = _
      rw [c0]
      rfl
    refine ⟨⟨⟨J.I.g, J.I.c0, J.I.i20, J.I.i21, J.I.i22, J.I.i23, J.I.i24, J.I.i26⟩, ?_, ?_, ?_, ?_⟩, ?_⟩
    · show 0 ≤ ρ2.i 0 + 1; omega
    · show ρ2.i 0 + 1 ≤ _; omega
    · rw [hc1]
      show _ = fOwn _ (rows.take (ρ2.i 0 + 1).toNat)
      rw [et, fOwn_next hj, if_pos hq, J.c1]
    · rw [hc1, List.length_append]
      show (((ρ2.c 1).length : Nat) : Int) + 1 = _
      simp
    · show rows.length - (ρ2.i 0 + 1).toNat < rows.length - (ρ2.i 0).toNat; omega
  · refine back ?_ (by omega)
    unfold fQ
    rw [decide_eq_false_iff_not]
    exact fun hh => hpc.1 hh.2.2
  · refine back ?_ (by omega)
    unfold fQ
    rw [decide_eq_false_iff_not]
    exact fun hh => hpc.1 hh.2.1
  · refine back ?_ (by omega)
    unfold fQ
    rw [decide_eq_false_iff_not]
    exact fun hh => hpc.1 hh.1
  · intro β a' w' hM'
    have hjn : (ρ2.i 0).toNat = rows.length := by omega
    have hc1 := J.c1
    rw [hjn, List.take_length] at hc1
    refine part_aft (B := ⟨ρ2, fun _ => False, w0, β0, 50⟩) (r := fp3 Try.prog Try.f116 i) J.I.g (fun q hq => by cases hq) rfl (.exit 2) rfl E.run3 ?_ hM'
    refine ⟨?_, ?_, ?_, ?_, trivial⟩
    · intro hpc3
      have h0 := hpc3.1
      rw [t_lt] at h0
      change (0 : Int) < ρ2.i 1 at h0
      rw [t_lt]
      show ρ2.i 26 % ρ2.i 1 < ρ2.i 1
      exact Int.emod_lt_of_pos _ h0
    · intro hpc3
      have h0 := hpc3.1
      rw [t_lt] at h0 ⊢
      change ρ2.i 26 % ρ2.i 1 < ρ2.i 1 at h0
      show ρ2.i 26 % ρ2.i 1 < (((ρ2.c 1).length : Nat) : Int)
      omega
    · intro hpc3 β3 a3 w3 hM3
      have h0 := hpc3.2.2.1
      rw [t_lt] at h0
      change (0 : Int) < ρ2.i 1 at h0
      refine hr (fun e => ?_) ρ2 β3 a3 w3 J.I hc1 i1 hM3
      rw [i1, hc1, e] at h0
      exact absurd h0 (by decide)
    · intro hpc3 β3 a3 w3 hM3
      have h0 := hpc3.1
      rw [t_not, t_lt] at h0
      change ¬ (0 : Int) < ρ2.i 1 at h0
      have hI4 : ∀ u, FiI rows p la lp ra rp n { ρ2.sub β3 [] with u := u } := fun u => ⟨J.I.g, J.I.c0, J.I.i20, J.I.i21, J.I.i22, J.I.i23, J.I.i24, J.I.i26⟩
      have hc4 : ∀ u, (fpT Try.prog Try.f116 (i + 1)).cx.ok { ρ2.sub β3 [] with u := u } := fun u => by
        refine ⟨fun x hx => ?_, fun t ht => ?_⟩
        · exact (hI4 u).bs h hn x hx
        · change t ∈ [] at ht
          cases ht
      obtain ⟨u4, β4, hM4⟩ := Sy.Md.enter hM3 E.mt3 hc4
      refine hno ?_ _ β4 a3 w3 (hI4 u4) hM4
      rw [← hc1]
      exact List.eq_nil_of_length_eq_zero (by omega)
/-- Find answers as findV says. -/
def FindRuns (P : Program) (f : FuncId) (T : TypeId) : Prop := ∀ {w : World} {g0 g c : Nat} {rows : List (List Value)} {p la lp ra rp n : Int}, Blk w g0 T [sltV g c rows.length] → RowT w g c 50 bdLv rows → rows.length ≤ 4000 → (c ≠ 0 → g0 ≠ g) → FiOk p la lp ra rp n →
  Calls P f #[.pointer (some ⟨g0, 0, none⟩), .int .i64 p, .agg #[.int .u32 la, .int .i64 lp], .agg #[.int .u32 ra, .int .i64 rp], .int .u64 n] w (RetP fun v w' => v = findV rows p la lp ra rp n ∧ Below w.heap.size w w')
def fiEnv (rows : List (List Value)) (p la lp ra rp n : Int) : Env := { mkEnv [] [] [] [] with
  i := fun k => if k = 20 then p else if k = 21 then la else if k = 22 then lp else if k = 23 then ra else if k = 24 then rp else if k = 26 then n else 0
  c := fun _ => rows }
theorem fiEnv_I : FiI rows p la lp ra rp n (fiEnv rows p la lp ra rp n) := ⟨fun i => rfl, rfl, rfl, rfl, rfl, rfl, rfl, rfl⟩
theorem fi_start {T : TypeId} {w : World} {g0 g c : Nat} (hB : Blk w g0 T [sltV g c rows.length]) (hT : RowT w g c 50 bdLv rows) (hn : rows.length ≤ 4000) (hne : c ≠ 0 → g0 ≠ g) (h : FiOk p la lp ra rp n) :
    Md (fiEnv rows p la lp ra rp n) (fun _ => False) w (ixB g c g0) 50 (fiSt T) (ixB g c g0) ⟨#[], []⟩ w := by
  refine ⟨rfl, fun x hx => ?_, fun x hx y hy hxy hrx hry => ?_, fun x hx hw _ => ?_, ⟨fiEnv_I.bs h hn, fun t ht => by cases ht⟩, Only.refl _ _, fun _ _ => rfl⟩
  · change x ∈ [_, _] at hx
    simp only [List.mem_cons, List.not_mem_nil, or_false] at hx
    rcases hx with rfl | rfl
    · show Blk w g0 _ [sltZ g c 7 0 rows.length 0]
      rw [sltZ_zero]
      exact hB
    · exact hT
  · change x ∈ [_, _] at hx
    change y ∈ [_, _] at hy
    simp only [List.mem_cons, List.not_mem_nil, or_false] at hx hy
    rcases hx with rfl | rfl <;> rcases hy with rfl | rfl
    · exact absurd rfl hxy
    · exact hne (hry.resolve_left (by simp [bdTb, Bk.nilable, Xt.isTab]))
    · exact (hne (hrx.resolve_left (by simp [bdTb, Bk.nilable, Xt.isTab]))).symm
    · exact absurd rfl hxy
  · change x ∈ [_, _] at hx
    simp only [List.mem_cons, List.not_mem_nil, or_false] at hx
    rcases hx with rfl | rfl <;> cases hw
/-- Ahead of the kth round: none was found so far. -/
structure FpK (rows : List (List Value)) (p la lp ra rp n : Int) (w0 : World) (β0 : Bn) (k : Nat) (a : Act) (w : World) : Prop where
  k3 : k ≤ 3
  n1 : 1 ≤ k → fOwn (fQ p la lp ra rp) rows = []
  n2 : 2 ≤ k → fOwn (fQ p la lp 0 0) rows = []
  n3 : 3 ≤ k → fOwn (fQ p 0 lp 0 0) rows = []
  md : ∃ ρ β, FiI rows p la lp ra rp n ρ ∧ Md ρ (fun _ => False) w0 β0 50 (fpT Try.prog Try.f116 (k : Int)) β a w
set_option maxRecDepth 100000 in
theorem pfind_runs : FindRuns Try.prog 116 252 := by
  intro w g0 g c rows p la lp ra rp n hB hT hn hne h
  have hM0 := fi_start hB hT hn hne h
  refine calls_pre (B := ⟨fiEnv rows p la lp ra rp n, fun _ => False, w, ixB g c g0, 50⟩) (sp := []) (p := fiP) (xs := fiA) (s := fiSt 252) (r := fp0 Try.prog Try.f116) (fun i => rfl) (fun q hq => by cases hq) rfl Try.func116 rfl rfl fp_run0 hM0 ?_ rfl
  refine ⟨?_, trivial⟩
  intro _ β a w1 hM1
  show (Sy.sub fiP (bodyOf Try.f116)).wp Try.prog _ a w1
  rw [← fp_loop]
  have hI1 : ∀ u, FiI rows p la lp ra rp n { (fiEnv rows p la lp ra rp n).sub β [] with u := u } := fun u => ⟨fun i => rfl, rfl, rfl, rfl, rfl, rfl, rfl, rfl⟩
  obtain ⟨u, β1, hM2⟩ := Sy.Md.enter hM1 fp_match fun u => ⟨(hI1 u).bs h hn, fun t ht => by
    change t ∈ [] at ht
    cases ht⟩
  refine wp_loop_ix (FpK rows p la lp ra rp n w (ixB g c g0)) (fun k => 4 - k) ?_ 0 ⟨by decide, fun h => absurd h (by decide), fun h => absurd h (by decide), fun h => absurd h (by decide), _, β1, hI1 u, hM2⟩
  intro k a w2 K
  obtain ⟨ρ, β2, I, hM⟩ := K.md
  have val : ∀ {i : Int} {A B C : Tm} {l : List (List Value)}, FpRound Try.prog Try.f116 i A B C → findV rows p la lp ra rp n = pickO l n → ∀ ρ' β' a' w', FiI rows p la lp ra rp n ρ' → ρ'.c 1 = l → ρ'.i 1 = ((ρ'.c 1).length : Int) → Md ρ' (fun _ => False) w (ixB g c g0) 50 (lfAt (fp3 Try.prog Try.f116 i) 2) β' a' w' →
      ctx Try.prog fiP (bodyOf Try.f116) (bodyPost Try.prog Try.f116 (RetP fun v w' => v = findV rows p la lp ra rp n ∧ Below w.heap.size w w')) .ret a' w' := by
    intro i A B C l E hv ρ' β' a' w' I' hc hi hM'
    refine ctx_ret (P := Try.prog) fiP _ _ (ret_post (B := ⟨ρ', fun _ => False, w, ixB g c g0, 50⟩) hM' E.ret3 ⟨?_, Sy.Only.below_all hM'.only⟩)
    rw [hv]
    show Value.tuple #[.int .i64 (gI .i64 ((ρ'.c 1).getD (ρ'.i 26 % ρ'.i 1).toNat []) 0), .bool true] = pickO l n
    rw [hi, I'.i26, hc]
    rfl
  have k3 := K.k3
  match k, K, hM with
  | 0, K, hM =>
    refine fp_round fp_code0 h hn (fun ρ I => I.i21) (fun ρ I => I.i23) (fun ρ I => I.i24) I hM (fun hne ρ' β' a' w' I' hc hi hM' => ?_) (fun he ρ' β' a' w' I' hM' => ?_)
    · exact val fp_code0 (by unfold findV; rw [if_pos hne]) ρ' β' a' w' I' hc hi hM'
    · exact ⟨1, by decide, by decide, fun _ => he, fun h => absurd h (by decide), fun h => absurd h (by decide), ρ', β', I', hM'⟩
  | 1, K, hM =>
    have n1 := K.n1 (by decide)
    refine fp_round (LA := la) (RA := 0) (RP := 0) fp_code1 h hn (fun ρ I => I.i21) (fun ρ I => rfl) (fun ρ I => rfl) I hM (fun hne ρ' β' a' w' I' hc hi hM' => ?_) (fun he ρ' β' a' w' I' hM' => ?_)
    · exact val fp_code1 (by unfold findV; rw [if_neg (by rw [n1]; simp), if_pos hne]) ρ' β' a' w' I' hc hi hM'
    · exact ⟨2, by decide, by decide, fun _ => n1, fun _ => he, fun h => absurd h (by decide), ρ', β', I', hM'⟩
  | 2, K, hM =>
    have n1 := K.n1 (by decide)
    have n2 := K.n2 (by decide)
    refine fp_round (LA := 0) (RA := 0) (RP := 0) fp_code2 h hn (fun ρ I => rfl) (fun ρ I => rfl) (fun ρ I => rfl) I hM (fun hne ρ' β' a' w' I' hc hi hM' => ?_) (fun he ρ' β' a' w' I' hM' => ?_)
    · exact val fp_code2 (by unfold findV; rw [if_neg (by rw [n1]; simp), if_neg (by rw [n2]; simp), if_pos hne]) ρ' β' a' w' I' hc hi hM'
    · exact ⟨3, by decide, by decide, fun _ => n1, fun _ => n2, fun _ => he, ρ', β', I', hM'⟩
  | 3, K, hM =>
    have n1 := K.n1 (by decide)
    have n2 := K.n2 (by decide)
    have n3 := K.n3 (by decide)
    refine part_wp (B := ⟨ρ, fun _ => False, w, ixB g c g0, 50⟩) (r := fp4 Try.prog Try.f116) I.g (fun q hq => by cases hq) rfl rfl fp_run4 ?_ hM
    refine ⟨?_, trivial⟩
    intro _ β4 a4 w4 hM4
    obtain ⟨hpf, pcf, hfin⟩ := finB_ok fp_fin
    refine aft_fin (B := ⟨ρ, fun _ => False, w, ixB g c g0, 50⟩) I.g (fun q hq => by cases hq) rfl (.exit 0) hfin ?_ hM4
    refine ⟨?_, trivial⟩
    intro _ β5 w5 hH
    refine ⟨?_, Sy.Only.below_all hH.only⟩
    unfold findV
    rw [if_neg (by rw [n1]; simp), if_neg (by rw [n2]; simp), if_neg (by rw [n3]; simp)]
    rfl
  | k + 4, K, hM => exact absurd k3 (by omega)
end
end Go.Proofs.Ythjigajielhkfaa
