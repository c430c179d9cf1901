/- Find of the reference's ports: what it finds. Printed by gen_phl.py. -/
import Derived.Test.YthjigajielhkfaaPh0
namespace Go.Proofs.Ythjigajielhkfaa
open Go.RowKit Sy
set_option linter.unusedVariables false
set_option linter.unusedSimpArgs false

structure FdJ (rows : List (List Value)) (p la lp ra rp n : Int) (ρ : Env) : Prop where
  I : FiI rows p la lp ra rp n ρ
  j0 : 0 ≤ ρ.i 0
  jn : ρ.i 0 ≤ (rows.length : Int)
  c1 : ρ.c 1 = fOwn (fQ p la lp ra rp) (rows.take (ρ.i 0).toNat)
  c2 : ρ.c 2 = fOwn (fQ p la lp 0 0) (rows.take (ρ.i 0).toNat)
  c3 : ρ.c 3 = fOwn (fQ p 0 lp 0 0) (rows.take (ρ.i 0).toNat)
  i1 : ρ.i 1 = ((ρ.c 1).length : Int)
  i2 : ρ.i 2 = ((ρ.c 2).length : Int)
  i3 : ρ.i 3 = ((ρ.c 3).length : Int)
section
variable {rows : List (List Value)} {p la lp ra rp n : Int} {ρ : Env}
theorem FdJ.cx (J : FdJ rows p la lp ra rp n ρ) (h : FiOk p la lp ra rp n) (hn : rows.length ≤ 4000) : fdCx.ok ρ := by
  have j0 := J.j0
  have jn := J.jn
  have i1 := J.i1
  have i2 := J.i2
  have i3 := J.i3
  have c0 : (ρ.c 0).length = rows.length := by rw [J.I.c0]
  have hl : ∀ q, (fOwn q (rows.take (ρ.i 0).toNat)).length ≤ rows.length := fun q => by
    refine Nat.le_trans (fOwn_len _ _) ?_
    rw [List.length_take]
    omega
  have l1 : (ρ.c 1).length ≤ rows.length := by rw [J.c1]; exact hl _
  have l2 : (ρ.c 2).length ≤ rows.length := by rw [J.c2]; exact hl _
  have l3 : (ρ.c 3).length ≤ rows.length := by rw [J.c3]; exact hl _
  refine ⟨fun x hx => ?_, fun t ht => ?_⟩
  · change x ∈ _ :: _ :: _ :: _ :: _ :: _ :: _ :: fiBs at hx
    rcases List.mem_cons.1 hx with rfl | hx
    · show (0 : Int) ≤ ρ.i 0 ∧ ρ.i 0 ≤ 4000
      omega
    rcases List.mem_cons.1 hx with rfl | hx
    · show (0 : Int) ≤ ρ.i 1 ∧ ρ.i 1 ≤ 4000
      omega
    rcases List.mem_cons.1 hx with rfl | hx
    · show (0 : Int) ≤ (((ρ.c 1).length : Nat) : Int) ∧ (((ρ.c 1).length : Nat) : Int) ≤ 4000
      omega
    rcases List.mem_cons.1 hx with rfl | hx
    · show (0 : Int) ≤ ρ.i 2 ∧ ρ.i 2 ≤ 4000
      omega
    rcases List.mem_cons.1 hx with rfl | hx
    · show (0 : Int) ≤ (((ρ.c 2).length : Nat) : Int) ∧ (((ρ.c 2).length : Nat) : Int) ≤ 4000
      omega
    rcases List.mem_cons.1 hx with rfl | hx
    · show (0 : Int) ≤ ρ.i 3 ∧ ρ.i 3 ≤ 4000
      omega
    rcases List.mem_cons.1 hx with rfl | hx
    · show (0 : Int) ≤ (((ρ.c 3).length : Nat) : Int) ∧ (((ρ.c 3).length : Nat) : Int) ≤ 4000
      omega
    · exact J.I.bs h hn x hx
  · change t ∈ [_, _, _, _, _, _, _] at ht
    simp only [List.mem_cons, List.not_mem_nil, or_false] at ht
    rcases ht with rfl | rfl | rfl | rfl | rfl | rfl | rfl
    · rw [t_le]; show ρ.i 0 ≤ (((ρ.c 0).length : Nat) : Int); omega
    · rw [t_le]; show ρ.i 1 ≤ (((ρ.c 1).length : Nat) : Int); omega
    · rw [t_le]; show (((ρ.c 1).length : Nat) : Int) ≤ ρ.i 1; omega
    · rw [t_le]; show ρ.i 2 ≤ (((ρ.c 2).length : Nat) : Int); omega
    · rw [t_le]; show (((ρ.c 2).length : Nat) : Int) ≤ ρ.i 2; omega
    · rw [t_le]; show ρ.i 3 ≤ (((ρ.c 3).length : Nat) : Int); omega
    · rw [t_le]; show (((ρ.c 3).length : Nat) : Int) ≤ ρ.i 3; omega
theorem FdJ.next (J : FdJ rows p la lp ra rp n ρ) (hlt : ρ.i 0 < (rows.length : Int)) {ρ' : Env} (I : FiI rows p la lp ra rp n ρ') (h0 : ρ'.i 0 = ρ.i 0 + 1)
    (h1 : ρ'.c 1 = ρ.c 1 ++ if fQ p la lp ra rp (rows.getD (ρ.i 0).toNat []) = true then [ownR (rows.getD (ρ.i 0).toNat [])] else [])
    (h2 : ρ'.c 2 = ρ.c 2 ++ if fQ p la lp 0 0 (rows.getD (ρ.i 0).toNat []) = true then [ownR (rows.getD (ρ.i 0).toNat [])] else [])
    (h3 : ρ'.c 3 = ρ.c 3 ++ if fQ p 0 lp 0 0 (rows.getD (ρ.i 0).toNat []) = true then [ownR (rows.getD (ρ.i 0).toNat [])] else [])
    (l1 : ρ'.i 1 = ((ρ'.c 1).length : Int)) (l2 : ρ'.i 2 = ((ρ'.c 2).length : Int)) (l3 : ρ'.i 3 = ((ρ'.c 3).length : Int)) :
    FdJ rows p la lp ra rp n ρ' ∧ rows.length - (ρ'.i 0).toNat < rows.length - (ρ.i 0).toNat := by
  have j0 := J.j0
  have et : (ρ.i 0 + 1).toNat = (ρ.i 0).toNat + 1 := by omega
  have hj : (ρ.i 0).toNat < rows.length := by omega
  refine ⟨⟨I, by omega, by omega, ?_, ?_, ?_, l1, l2, l3⟩, by rw [h0]; omega⟩
  · rw [h0, et, fOwn_next hj, h1, J.c1]
  · rw [h0, et, fOwn_next hj, h2, J.c2]
  · rw [h0, et, fOwn_next hj, h3, J.c3]
set_option maxRecDepth 100000 in
set_option maxHeartbeats 2000000 in
theorem rfind_runs : FindRuns Try.prog 117 147 := by
  intro w g0 g c rows p la lp ra rp n hB hT hn hne h
  have hM0 := fi_start hB hT hn hne h
  refine calls_pre (B := ⟨fiEnv rows p la lp ra rp n, fun _ => False, w, ixB g c g0, 50⟩) (sp := []) (p := fiP) (xs := fiA) (s := fiSt 147) (r := fd0 Try.prog Try.f117) (fun i => rfl) (fun q hq => by cases hq) rfl Try.func117 rfl rfl fd_run0 hM0 ?_ rfl
  refine ⟨?_, trivial⟩
  intro _ β a w1 hM1
  show (Sy.sub fiP (bodyOf Try.f117)).wp Try.prog _ a w1
  rw [← fd_loop]
  obtain ⟨f1, ff⟩ := Prod.mk.inj fd_free
  obtain ⟨f2, ff⟩ := Prod.mk.inj ff
  obtain ⟨f3, ff⟩ := Prod.mk.inj ff
  obtain ⟨f4, ff⟩ := Prod.mk.inj ff
  obtain ⟨f5, f6⟩ := Prod.mk.inj ff
  obtain ⟨βa, hMa⟩ := Sy.Md.tabCell hM1 54 0 80 3 [.int .i64] (show 50 ≤ 80 by decide) f1 f2
  obtain ⟨βb, hMb⟩ := Sy.Md.tabCell hMa 54 1 82 3 [.int .i64] (show 50 ≤ 82 by decide) f3 f4
  obtain ⟨βc, hMc⟩ := Sy.Md.tabCell hMb 54 2 84 3 [.int .i64] (show 50 ≤ 84 by decide) f5 f6
  have hI1 : ∀ u, FdJ rows p la lp ra rp n { (fiEnv rows p la lp ra rp n).sub βc [.i 0 (.il 0), .i 1 (.il 0), .i 2 (.il 0), .i 3 (.il 0), .c 3 tn, .c 2 tn, .c 1 tn] with u := u } := fun u =>
    ⟨⟨fun i => rfl, rfl, rfl, rfl, rfl, rfl, rfl, rfl⟩, Int.le_refl 0, show (0 : Int) ≤ _ by omega, rfl, rfl, rfl, rfl, rfl, rfl⟩
  obtain ⟨u, β1, hM2⟩ := Sy.Md.enter hMc fd_match fun u => (hI1 u).cx h hn
  refine loop_wp (w0 := w) (r := fd1 Try.prog Try.f117) rfl fd_run1 (FdJ rows p la lp ra rp n) (fun ρ => rows.length - (ρ.i 0).toNat) (fun ρ J => J.I.g) (fun ρ J q hq => by cases hq) (fun ρ J => J.cx h hn) ?_ (hI1 u) hM2
  clear hM0 hM1 hMa hMb hMc hM2 hI1 hB hT
  intro ρ2 J
  have j0 := J.j0
  have jn := J.jn
  have c0 := J.I.c0
  have e20 := J.I.i20
  have e21 := J.I.i21
  have e22 := J.I.i22
  have e23 := J.I.i23
  have e24 := J.I.i24
  refine ⟨?_, ?_, ?_, ?_, ?_, ?_, ?_, ?_, ?_, ?_, ?_, ?_, trivial⟩
  all_goals
    intro hpc
    replace hpc : pcs ρ2 _ := hpc
    simp only [tlen, pcs, t_lt, t_le, t_eq, t_not, t_and, i_iv, i_il, i_tl, i_get, c_cv, c0, gI_def, e20, e21, e22, e23, e24, and_true] at hpc
  · intro β u
    have hlt : ρ2.i 0 < (rows.length : Int) := by omega
    have q1 : fQ p la lp ra rp (rows.getD (ρ2.i 0).toNat []) = false := by
      generalize rows.getD (ρ2.i 0).toNat [] = a at hpc
      unfold fQ
      simp only [decide_eq_true_eq, decide_eq_false_iff_not]
      clear J c0 e20 e21 e22 e23 e24 j0 jn hlt
      (try simp_all) <;> omega
    have q2 : fQ p la lp 0 0 (rows.getD (ρ2.i 0).toNat []) = false := by
      generalize rows.getD (ρ2.i 0).toNat [] = a at hpc
      unfold fQ
      simp only [decide_eq_true_eq, decide_eq_false_iff_not]
      clear J c0 e20 e21 e22 e23 e24 j0 jn hlt
      (try simp_all) <;> omega
    have q3 : fQ p 0 lp 0 0 (rows.getD (ρ2.i 0).toNat []) = false := by
      generalize rows.getD (ρ2.i 0).toNat [] = a at hpc
      unfold fQ
      simp only [decide_eq_true_eq, decide_eq_false_iff_not]
      clear J c0 e20 e21 e22 e23 e24 j0 jn hlt
      (try simp_all) <;> omega
    refine J.next hlt ⟨J.I.g, J.I.c0, J.I.i20, J.I.i21, J.I.i22, J.I.i23, J.I.i24, J.I.i26⟩ rfl ?_ ?_ ?_ ?_ ?_ ?_
    · rw [q1, if_neg (by decide), List.append_nil]
      rfl
    · rw [q2, if_neg (by decide), List.append_nil]
      rfl
    · rw [q3, if_neg (by decide), List.append_nil]
      rfl
    · exact J.i1
    · exact J.i2
    · exact J.i3
  · intro β u
    have hlt : ρ2.i 0 < (rows.length : Int) := by omega
    have q1 : fQ p la lp ra rp (rows.getD (ρ2.i 0).toNat []) = true := by
      generalize rows.getD (ρ2.i 0).toNat [] = a at hpc
      unfold fQ
      simp only [decide_eq_true_eq, decide_eq_false_iff_not]
      clear J c0 e20 e21 e22 e23 e24 j0 jn hlt
      (try simp_all) <;> omega
    have q2 : fQ p la lp 0 0 (rows.getD (ρ2.i 0).toNat []) = true := by
      generalize rows.getD (ρ2.i 0).toNat [] = a at hpc
      unfold fQ
      simp only [decide_eq_true_eq, decide_eq_false_iff_not]
      clear J c0 e20 e21 e22 e23 e24 j0 jn hlt
      (try simp_all) <;> omega
    have q3 : fQ p 0 lp 0 0 (rows.getD (ρ2.i 0).toNat []) = true := by
      generalize rows.getD (ρ2.i 0).toNat [] = a at hpc
      unfold fQ
      simp only [decide_eq_true_eq, decide_eq_false_iff_not]
      clear J c0 e20 e21 e22 e23 e24 j0 jn hlt
      (try simp_all) <;> omega
    refine J.next hlt ⟨J.I.g, J.I.c0, J.I.i20, J.I.i21, J.I.i22, J.I.i23, J.I.i24, J.I.i26⟩ rfl ?_ ?_ ?_ ?_ ?_ ?_
    · show ρ2.c 1 ++ [[Value.int .i64 (gI .i64 ((ρ2.c 0).getD (ρ2.i 0).toNat []) 6)]] = _
      rw [c0, q1]
      rfl
    · show ρ2.c 2 ++ [[Value.int .i64 (gI .i64 ((ρ2.c 0).getD (ρ2.i 0).toNat []) 6)]] = _
      rw [c0, q2]
      rfl
    · show ρ2.c 3 ++ [[Value.int .i64 (gI .i64 ((ρ2.c 0).getD (ρ2.i 0).toNat []) 6)]] = _
      rw [c0, q3]
      rfl
    · show (((ρ2.c 1).length : Nat) : Int) + 1 = (((ρ2.c 1 ++ [_]).length : Nat) : Int)
      rw [List.length_append]
      rfl
    · show (((ρ2.c 2).length : Nat) : Int) + 1 = (((ρ2.c 2 ++ [_]).length : Nat) : Int)
      rw [List.length_append]
      rfl
    · show (((ρ2.c 3).length : Nat) : Int) + 1 = (((ρ2.c 3 ++ [_]).length : Nat) : Int)
      rw [List.length_append]
      rfl
  · intro β u
    have hlt : ρ2.i 0 < (rows.length : Int) := by omega
    have q1 : fQ p la lp ra rp (rows.getD (ρ2.i 0).toNat []) = true := by
      generalize rows.getD (ρ2.i 0).toNat [] = a at hpc
      unfold fQ
      simp only [decide_eq_true_eq, decide_eq_false_iff_not]
      clear J c0 e20 e21 e22 e23 e24 j0 jn hlt
      (try simp_all) <;> omega
    have q2 : fQ p la lp 0 0 (rows.getD (ρ2.i 0).toNat []) = true := by
      generalize rows.getD (ρ2.i 0).toNat [] = a at hpc
      unfold fQ
      simp only [decide_eq_true_eq, decide_eq_false_iff_not]
      clear J c0 e20 e21 e22 e23 e24 j0 jn hlt
      (try simp_all) <;> omega
    have q3 : fQ p 0 lp 0 0 (rows.getD (ρ2.i 0).toNat []) = false := by
      generalize rows.getD (ρ2.i 0).toNat [] = a at hpc
      unfold fQ
      simp only [decide_eq_true_eq, decide_eq_false_iff_not]
      clear J c0 e20 e21 e22 e23 e24 j0 jn hlt
      (try simp_all) <;> omega
    refine J.next hlt ⟨J.I.g, J.I.c0, J.I.i20, J.I.i21, J.I.i22, J.I.i23, J.I.i24, J.I.i26⟩ rfl ?_ ?_ ?_ ?_ ?_ ?_
    · show ρ2.c 1 ++ [[Value.int .i64 (gI .i64 ((ρ2.c 0).getD (ρ2.i 0).toNat []) 6)]] = _
      rw [c0, q1]
      rfl
    · show ρ2.c 2 ++ [[Value.int .i64 (gI .i64 ((ρ2.c 0).getD (ρ2.i 0).toNat []) 6)]] = _
      rw [c0, q2]
      rfl
    · rw [q3, if_neg (by decide), List.append_nil]
      rfl
    · show (((ρ2.c 1).length : Nat) : Int) + 1 = (((ρ2.c 1 ++ [_]).length : Nat) : Int)
      rw [List.length_append]
      rfl
    · show (((ρ2.c 2).length : Nat) : Int) + 1 = (((ρ2.c 2 ++ [_]).length : Nat) : Int)
      rw [List.length_append]
      rfl
    · exact J.i3
  · intro β u
    have hlt : ρ2.i 0 < (rows.length : Int) := by omega
    have q1 : fQ p la lp ra rp (rows.getD (ρ2.i 0).toNat []) = true := by
      generalize rows.getD (ρ2.i 0).toNat [] = a at hpc
      unfold fQ
      simp only [decide_eq_true_eq, decide_eq_false_iff_not]
      clear J c0 e20 e21 e22 e23 e24 j0 jn hlt
      (try simp_all) <;> omega
    have q2 : fQ p la lp 0 0 (rows.getD (ρ2.i 0).toNat []) = false := by
      generalize rows.getD (ρ2.i 0).toNat [] = a at hpc
      unfold fQ
      simp only [decide_eq_true_eq, decide_eq_false_iff_not]
      clear J c0 e20 e21 e22 e23 e24 j0 jn hlt
      (try simp_all) <;> omega
    have q3 : fQ p 0 lp 0 0 (rows.getD (ρ2.i 0).toNat []) = false := by
      generalize rows.getD (ρ2.i 0).toNat [] = a at hpc
      unfold fQ
      simp only [decide_eq_true_eq, decide_eq_false_iff_not]
      clear J c0 e20 e21 e22 e23 e24 j0 jn hlt
      (try simp_all) <;> omega
    refine J.next hlt ⟨J.I.g, J.I.c0, J.I.i20, J.I.i21, J.I.i22, J.I.i23, J.I.i24, J.I.i26⟩ rfl ?_ ?_ ?_ ?_ ?_ ?_
    · show ρ2.c 1 ++ [[Value.int .i64 (gI .i64 ((ρ2.c 0).getD (ρ2.i 0).toNat []) 6)]] = _
      rw [c0, q1]
      rfl
    · rw [q2, if_neg (by decide), List.append_nil]
      rfl
    · rw [q3, if_neg (by decide), List.append_nil]
      rfl
    · show (((ρ2.c 1).length : Nat) : Int) + 1 = (((ρ2.c 1 ++ [_]).length : Nat) : Int)
      rw [List.length_append]
      rfl
    · exact J.i2
    · exact J.i3
  · intro β u
    have hlt : ρ2.i 0 < (rows.length : Int) := by omega
    have q1 : fQ p la lp ra rp (rows.getD (ρ2.i 0).toNat []) = false := by
      generalize rows.getD (ρ2.i 0).toNat [] = a at hpc
      unfold fQ
      simp only [decide_eq_true_eq, decide_eq_false_iff_not]
      clear J c0 e20 e21 e22 e23 e24 j0 jn hlt
      (try simp_all) <;> omega
    have q2 : fQ p la lp 0 0 (rows.getD (ρ2.i 0).toNat []) = true := by
      generalize rows.getD (ρ2.i 0).toNat [] = a at hpc
      unfold fQ
      simp only [decide_eq_true_eq, decide_eq_false_iff_not]
      clear J c0 e20 e21 e22 e23 e24 j0 jn hlt
      (try simp_all) <;> omega
    have q3 : fQ p 0 lp 0 0 (rows.getD (ρ2.i 0).toNat []) = true := by
      generalize rows.getD (ρ2.i 0).toNat [] = a at hpc
      unfold fQ
      simp only [decide_eq_true_eq, decide_eq_false_iff_not]
      clear J c0 e20 e21 e22 e23 e24 j0 jn hlt
      (try simp_all) <;> omega
    refine J.next hlt ⟨J.I.g, J.I.c0, J.I.i20, J.I.i21, J.I.i22, J.I.i23, J.I.i24, J.I.i26⟩ rfl ?_ ?_ ?_ ?_ ?_ ?_
    · rw [q1, if_neg (by decide), List.append_nil]
      rfl
    · show ρ2.c 2 ++ [[Value.int .i64 (gI .i64 ((ρ2.c 0).getD (ρ2.i 0).toNat []) 6)]] = _
      rw [c0, q2]
      rfl
    · show ρ2.c 3 ++ [[Value.int .i64 (gI .i64 ((ρ2.c 0).getD (ρ2.i 0).toNat []) 6)]] = _
      rw [c0, q3]
      rfl
    · exact J.i1
    · show (((ρ2.c 2).length : Nat) : Int) + 1 = (((ρ2.c 2 ++ [_]).length : Nat) : Int)
      rw [List.length_append]
      rfl
    · show (((ρ2.c 3).length : Nat) : Int) + 1 = (((ρ2.c 3 ++ [_]).length : Nat) : Int)
      rw [List.length_append]
      rfl
  · intro β u
    have hlt : ρ2.i 0 < (rows.length : Int) := by omega
    have q1 : fQ p la lp ra rp (rows.getD (ρ2.i 0).toNat []) = false := by
      generalize rows.getD (ρ2.i 0).toNat [] = a at hpc
      unfold fQ
      simp only [decide_eq_true_eq, decide_eq_false_iff_not]
      clear J c0 e20 e21 e22 e23 e24 j0 jn hlt
      (try simp_all) <;> omega
    have q2 : fQ p la lp 0 0 (rows.getD (ρ2.i 0).toNat []) = true := by
      generalize rows.getD (ρ2.i 0).toNat [] = a at hpc
      unfold fQ
      simp only [decide_eq_true_eq, decide_eq_false_iff_not]
      clear J c0 e20 e21 e22 e23 e24 j0 jn hlt
      (try simp_all) <;> omega
    have q3 : fQ p 0 lp 0 0 (rows.getD (ρ2.i 0).toNat []) = false := by
      generalize rows.getD (ρ2.i 0).toNat [] = a at hpc
      unfold fQ
      simp only [decide_eq_true_eq, decide_eq_false_iff_not]
      clear J c0 e20 e21 e22 e23 e24 j0 jn hlt
      (try simp_all) <;> omega
    refine J.next hlt ⟨J.I.g, J.I.c0, J.I.i20, J.I.i21, J.I.i22, J.I.i23, J.I.i24, J.I.i26⟩ rfl ?_ ?_ ?_ ?_ ?_ ?_
    · rw [q1, if_neg (by decide), List.append_nil]
      rfl
    · show ρ2.c 2 ++ [[Value.int .i64 (gI .i64 ((ρ2.c 0).getD (ρ2.i 0).toNat []) 6)]] = _
      rw [c0, q2]
      rfl
    · rw [q3, if_neg (by decide), List.append_nil]
      rfl
    · exact J.i1
    · show (((ρ2.c 2).length : Nat) : Int) + 1 = (((ρ2.c 2 ++ [_]).length : Nat) : Int)
      rw [List.length_append]
      rfl
    · exact J.i3
  · intro β u
    have hlt : ρ2.i 0 < (rows.length : Int) := by omega
    have q1 : fQ p la lp ra rp (rows.getD (ρ2.i 0).toNat []) = false := by
      generalize rows.getD (ρ2.i 0).toNat [] = a at hpc
      unfold fQ
      simp only [decide_eq_true_eq, decide_eq_false_iff_not]
      clear J c0 e20 e21 e22 e23 e24 j0 jn hlt
      (try simp_all) <;> omega
    have q2 : fQ p la lp 0 0 (rows.getD (ρ2.i 0).toNat []) = false := by
      generalize rows.getD (ρ2.i 0).toNat [] = a at hpc
      unfold fQ
      simp only [decide_eq_true_eq, decide_eq_false_iff_not]
      clear J c0 e20 e21 e22 e23 e24 j0 jn hlt
      (try simp_all) <;> omega
    have q3 : fQ p 0 lp 0 0 (rows.getD (ρ2.i 0).toNat []) = false := by
      generalize rows.getD (ρ2.i 0).toNat [] = a at hpc
      unfold fQ
      simp only [decide_eq_true_eq, decide_eq_false_iff_not]
      clear J c0 e20 e21 e22 e23 e24 j0 jn hlt
      (try simp_all) <;> omega
    refine J.next hlt ⟨J.I.g, J.I.c0, J.I.i20, J.I.i21, J.I.i22, J.I.i23, J.I.i24, J.I.i26⟩ rfl ?_ ?_ ?_ ?_ ?_ ?_
    · rw [q1, if_neg (by decide), List.append_nil]
      rfl
    · rw [q2, if_neg (by decide), List.append_nil]
      rfl
    · rw [q3, if_neg (by decide), List.append_nil]
      rfl
    · exact J.i1
    · exact J.i2
    · exact J.i3
  · intro β u
    have hlt : ρ2.i 0 < (rows.length : Int) := by omega
    have q1 : fQ p la lp ra rp (rows.getD (ρ2.i 0).toNat []) = false := by
      generalize rows.getD (ρ2.i 0).toNat [] = a at hpc
      unfold fQ
      simp only [decide_eq_true_eq, decide_eq_false_iff_not]
      clear J c0 e20 e21 e22 e23 e24 j0 jn hlt
      (try simp_all) <;> omega
    have q2 : fQ p la lp 0 0 (rows.getD (ρ2.i 0).toNat []) = false := by
      generalize rows.getD (ρ2.i 0).toNat [] = a at hpc
      unfold fQ
      simp only [decide_eq_true_eq, decide_eq_false_iff_not]
      clear J c0 e20 e21 e22 e23 e24 j0 jn hlt
      (try simp_all) <;> omega
    have q3 : fQ p 0 lp 0 0 (rows.getD (ρ2.i 0).toNat []) = true := by
      generalize rows.getD (ρ2.i 0).toNat [] = a at hpc
      unfold fQ
      simp only [decide_eq_true_eq, decide_eq_false_iff_not]
      clear J c0 e20 e21 e22 e23 e24 j0 jn hlt
      (try simp_all) <;> omega
    refine J.next hlt ⟨J.I.g, J.I.c0, J.I.i20, J.I.i21, J.I.i22, J.I.i23, J.I.i24, J.I.i26⟩ rfl ?_ ?_ ?_ ?_ ?_ ?_
    · rw [q1, if_neg (by decide), List.append_nil]
      rfl
    · rw [q2, if_neg (by decide), List.append_nil]
      rfl
    · show ρ2.c 3 ++ [[Value.int .i64 (gI .i64 ((ρ2.c 0).getD (ρ2.i 0).toNat []) 6)]] = _
      rw [c0, q3]
      rfl
    · exact J.i1
    · exact J.i2
    · show (((ρ2.c 3).length : Nat) : Int) + 1 = (((ρ2.c 3 ++ [_]).length : Nat) : Int)
      rw [List.length_append]
      rfl
  · intro β u
    have hlt : ρ2.i 0 < (rows.length : Int) := by omega
    have q1 : fQ p la lp ra rp (rows.getD (ρ2.i 0).toNat []) = false := by
      generalize rows.getD (ρ2.i 0).toNat [] = a at hpc
      unfold fQ
      simp only [decide_eq_true_eq, decide_eq_false_iff_not]
      clear J c0 e20 e21 e22 e23 e24 j0 jn hlt
      (try simp_all) <;> omega
    have q2 : fQ p la lp 0 0 (rows.getD (ρ2.i 0).toNat []) = false := by
      generalize rows.getD (ρ2.i 0).toNat [] = a at hpc
      unfold fQ
      simp only [decide_eq_true_eq, decide_eq_false_iff_not]
      clear J c0 e20 e21 e22 e23 e24 j0 jn hlt
      (try simp_all) <;> omega
    have q3 : fQ p 0 lp 0 0 (rows.getD (ρ2.i 0).toNat []) = false := by
      generalize rows.getD (ρ2.i 0).toNat [] = a at hpc
      unfold fQ
      simp only [decide_eq_true_eq, decide_eq_false_iff_not]
      clear J c0 e20 e21 e22 e23 e24 j0 jn hlt
      (try simp_all) <;> omega
    refine J.next hlt ⟨J.I.g, J.I.c0, J.I.i20, J.I.i21, J.I.i22, J.I.i23, J.I.i24, J.I.i26⟩ rfl ?_ ?_ ?_ ?_ ?_ ?_
    · rw [q1, if_neg (by decide), List.append_nil]
      rfl
    · rw [q2, if_neg (by decide), List.append_nil]
      rfl
    · rw [q3, if_neg (by decide), List.append_nil]
      rfl
    · exact J.i1
    · exact J.i2
    · exact J.i3
  · intro β u
    have hlt : ρ2.i 0 < (rows.length : Int) := by omega
    have q1 : fQ p la lp ra rp (rows.getD (ρ2.i 0).toNat []) = false := by
      generalize rows.getD (ρ2.i 0).toNat [] = a at hpc
      unfold fQ
      simp only [decide_eq_true_eq, decide_eq_false_iff_not]
      clear J c0 e20 e21 e22 e23 e24 j0 jn hlt
      (try simp_all) <;> omega
    have q2 : fQ p la lp 0 0 (rows.getD (ρ2.i 0).toNat []) = false := by
      generalize rows.getD (ρ2.i 0).toNat [] = a at hpc
      unfold fQ
      simp only [decide_eq_true_eq, decide_eq_false_iff_not]
      clear J c0 e20 e21 e22 e23 e24 j0 jn hlt
      (try simp_all) <;> omega
    have q3 : fQ p 0 lp 0 0 (rows.getD (ρ2.i 0).toNat []) = false := by
      generalize rows.getD (ρ2.i 0).toNat [] = a at hpc
      unfold fQ
      simp only [decide_eq_true_eq, decide_eq_false_iff_not]
      clear J c0 e20 e21 e22 e23 e24 j0 jn hlt
      (try simp_all) <;> omega
    refine J.next hlt ⟨J.I.g, J.I.c0, J.I.i20, J.I.i21, J.I.i22, J.I.i23, J.I.i24, J.I.i26⟩ rfl ?_ ?_ ?_ ?_ ?_ ?_
    · rw [q1, if_neg (by decide), List.append_nil]
      rfl
    · rw [q2, if_neg (by decide), List.append_nil]
      rfl
    · rw [q3, if_neg (by decide), List.append_nil]
      rfl
    · exact J.i1
    · exact J.i2
    · exact J.i3
  · intro β u
    have hlt : ρ2.i 0 < (rows.length : Int) := by omega
    have q1 : fQ p la lp ra rp (rows.getD (ρ2.i 0).toNat []) = false := by
      generalize rows.getD (ρ2.i 0).toNat [] = a at hpc
      unfold fQ
      simp only [decide_eq_true_eq, decide_eq_false_iff_not]
      clear J c0 e20 e21 e22 e23 e24 j0 jn hlt
      (try simp_all) <;> omega
    have q2 : fQ p la lp 0 0 (rows.getD (ρ2.i 0).toNat []) = false := by
      generalize rows.getD (ρ2.i 0).toNat [] = a at hpc
      unfold fQ
      simp only [decide_eq_true_eq, decide_eq_false_iff_not]
      clear J c0 e20 e21 e22 e23 e24 j0 jn hlt
      (try simp_all) <;> omega
    have q3 : fQ p 0 lp 0 0 (rows.getD (ρ2.i 0).toNat []) = false := by
      generalize rows.getD (ρ2.i 0).toNat [] = a at hpc
      unfold fQ
      simp only [decide_eq_true_eq, decide_eq_false_iff_not]
      clear J c0 e20 e21 e22 e23 e24 j0 jn hlt
      (try simp_all) <;> omega
    refine J.next hlt ⟨J.I.g, J.I.c0, J.I.i20, J.I.i21, J.I.i22, J.I.i23, J.I.i24, J.I.i26⟩ rfl ?_ ?_ ?_ ?_ ?_ ?_
    · rw [q1, if_neg (by decide), List.append_nil]
      rfl
    · rw [q2, if_neg (by decide), List.append_nil]
      rfl
    · rw [q3, if_neg (by decide), List.append_nil]
      rfl
    · exact J.i1
    · exact J.i2
    · exact J.i3
  · intro β a' w' hM'
    have hjn : (ρ2.i 0).toNat = rows.length := by omega
    have hc1 := J.c1
    have hc2 := J.c2
    have hc3 := J.c3
    have i1 := J.i1
    have i2 := J.i2
    have i3 := J.i3
    rw [hjn, List.take_length] at hc1 hc2 hc3
    have hrets := fd_rets
    simp only [Bool.and_eq_true] at hrets
    obtain ⟨r1, r2, r3, r4⟩ := hrets
    have mst : ∀ k, (den ρ2 (.lt (.il 0) (.iv k))).b = true → (den ρ2 (.lt (fdM k) (.iv k))).b = true := fun k hk => by
      rw [t_lt] at hk ⊢
      change (0 : Int) < ρ2.i k at hk
      show ρ2.i 26 % ρ2.i k < ρ2.i k
      exact Int.emod_lt_of_pos _ hk
    have mst2 : ∀ k, ρ2.i k = ((ρ2.c k).length : Int) → (den ρ2 (.lt (fdM k) (.iv k))).b = true → (den ρ2 (.lt (fdM k) (tlen (.cv k)))).b = true := fun k hk h0 => by
      rw [t_lt] at h0 ⊢
      change ρ2.i 26 % ρ2.i k < ρ2.i k at h0
      show ρ2.i 26 % ρ2.i k < (((ρ2.c k).length : Nat) : Int)
      omega
    have pos : ∀ k, ρ2.i k = ((ρ2.c k).length : Int) → (den ρ2 (.lt (.il 0) (.iv k))).b = true → ρ2.c k ≠ [] := fun k hk h0 e => by
      rw [t_lt] at h0
      change (0 : Int) < ρ2.i k at h0
      rw [hk, e] at h0
      exact absurd h0 (by decide)
    have neg : ∀ k, ρ2.i k = ((ρ2.c k).length : Int) → (den ρ2 (.not (.lt (.il 0) (.iv k)))).b = true → ρ2.c k = [] := fun k hk h0 => by
      rw [t_not, t_lt] at h0
      change ¬ (0 : Int) < ρ2.i k at h0
      exact List.eq_nil_of_length_eq_zero (by omega)
    have val : ∀ k β, ρ2.i k = ((ρ2.c k).length : Int) → (fdV k).den ρ2 β = pickO (ρ2.c k) n := fun k β hk => by
      show Value.tuple #[.int .i64 (gI .i64 ((ρ2.c k).getD (ρ2.i 26 % ρ2.i k).toNat []) 0), .bool true] = _
      rw [hk, J.I.i26]
      rfl
    refine part_aft (B := ⟨ρ2, fun _ => False, w, ixB g c g0, 50⟩) (r := fd3 Try.prog Try.f117) J.I.g (fun q hq => by cases hq) rfl (.exit 0) rfl fd_run3 ?_ hM'
    refine ⟨?_, ?_, ?_, ?_, ?_, ?_, ?_, ?_, ?_, ?_, trivial⟩
    · exact fun hp => mst 1 hp.1
    · exact fun hp => mst2 1 i1 hp.1
    · intro hp β3 a3 w3 hM3
      refine ret_post (B := ⟨ρ2, fun _ => False, w, ixB g c g0, 50⟩) hM3 (retsB_ok r1 rfl) ⟨?_, Sy.Only.below_all hM3.only⟩
      have p1 := pos 1 i1 hp.2.2.1
      rw [val 1 β3 i1]
      rw [hc1] at p1 ⊢
      unfold findV
      rw [if_pos p1]
    · exact fun hp => mst 2 hp.1
    · exact fun hp => mst2 2 i2 hp.1
    · intro hp β3 a3 w3 hM3
      refine ret_post (B := ⟨ρ2, fun _ => False, w, ixB g c g0, 50⟩) hM3 (retsB_ok r2 rfl) ⟨?_, Sy.Only.below_all hM3.only⟩
      have p2 := pos 2 i2 hp.2.2.1
      have p1 := neg 1 i1 hp.2.2.2.1
      rw [val 2 β3 i2]
      rw [hc1] at p1
      rw [hc2] at p2 ⊢
      unfold findV
      rw [if_neg (by rw [p1]; simp), if_pos p2]
    · exact fun hp => mst 3 hp.1
    · exact fun hp => mst2 3 i3 hp.1
    · intro hp β3 a3 w3 hM3
      refine ret_post (B := ⟨ρ2, fun _ => False, w, ixB g c g0, 50⟩) hM3 (retsB_ok r3 rfl) ⟨?_, Sy.Only.below_all hM3.only⟩
      have p3 := pos 3 i3 hp.2.2.1
      have p2 := neg 2 i2 hp.2.2.2.1
      have p1 := neg 1 i1 hp.2.2.2.2.1
      rw [val 3 β3 i3]
      rw [hc1] at p1
      rw [hc2] at p2
      rw [hc3] at p3 ⊢
      unfold findV
      rw [if_neg (by rw [p1]; simp), if_neg (by rw [p2]; simp), if_pos p3]
    · intro hp β3 a3 w3 hM3
      refine ret_post (B := ⟨ρ2, fun _ => False, w, ixB g c g0, 50⟩) hM3 (retsB_ok r4 rfl) ⟨?_, Sy.Only.below_all hM3.only⟩
      have p3 := neg 3 i3 hp.1
      have p2 := neg 2 i2 hp.2.1
      have p1 := neg 1 i1 hp.2.2.1
      rw [hc1] at p1
      rw [hc2] at p2
      rw [hc3] at p3
      unfold findV
      rw [if_neg (by rw [p1]; simp), if_neg (by rw [p2]; simp), if_neg (by rw [p3]; simp)]
      rfl
end
end Go.Proofs.Ythjigajielhkfaa
