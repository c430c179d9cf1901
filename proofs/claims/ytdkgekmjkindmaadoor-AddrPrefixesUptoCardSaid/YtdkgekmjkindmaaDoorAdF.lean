/- Prefixes: the plain law. -/
import Derived.Test.YtdkgekmjkindmaaDoorAdE
namespace Go.Proofs.YtdkgekmjkindmaaDoor
open Go.RowKit Go.Lib
set_option linter.unusedVariables false
theorem index_at {d : UInt8} {x y : ByteArray} (h : ¬ hasB d x) : indexB (x ++ (sepB d ++ y)) (sepB d) = (x.size : Int) ∧ (x ++ (sepB d ++ y)).extract 0 x.size = x ∧ (x ++ (sepB d ++ y)).extract (x.size + 1) (x ++ (sepB d ++ y)).size = y := by
  have e : (x ++ (sepB d ++ y)).data.toList = x.data.toList ++ d :: y.data.toList := by
    rw [ba_app, ba_app]
    rfl
  refine ⟨by rw [indexB_sep, e, ix_at h, Lib.size_eq], ba_ext (by rw [ba_ext_l, e, Lib.size_eq x]; simp), ba_ext ?_⟩
  rw [ba_ext_l, e, Lib.size_eq (x ++ (sepB d ++ y)), e, List.take_of_length_le (Nat.le_refl _), show x.data.toList ++ d :: y.data.toList = (x.data.toList ++ [d]) ++ y.data.toList from by simp]
  exact List.drop_left' (by rw [List.length_append, ← Lib.size_eq x]; rfl)
theorem cut_at {x y : ByteArray} (h : ¬ hasB 47 x) : cutA (x ++ (sepB 47 ++ y)) = x ∧ cutB (x ++ (sepB 47 ++ y)) = y := by
  obtain ⟨h1, h2, h3⟩ := index_at (y := y) h
  obtain ⟨e1, e2, _⟩ := cutB_hit (x ++ (sepB 47 ++ y)) slash x.size h1
  exact ⟨(show cutA _ = _ from e1).trans h2, (show cutB _ = _ from e2).trans h3⟩
theorem small32_all : ((List.range 33).all fun n => decide (cntN (digS (n : Int)) 32 = n) && (match atoiAll (digS (n : Int)).data.toList with | .ok k => decide (k = (n : Int)) | _ => false)) = true := by kernel_rfl
theorem small32 {n : Int} (h0 : 0 ≤ n) (h1 : n ≤ 32) : cntN (digS n) 32 = n ∧ atoiAll (digS n).data.toList = .ok n := by
  have h := List.all_eq_true.1 small32_all n.toNat (List.mem_range.2 (by omega))
  rw [Bool.and_eq_true, Int.toNat_of_nonneg h0] at h
  obtain ⟨p1, p2⟩ := h
  refine ⟨of_decide_eq_true p1, ?_⟩
  split at p2
  · rename_i k e
    rw [e, of_decide_eq_true p2]
  · cases p2
theorem hasB_app {d : UInt8} {a b : ByteArray} (ha : ¬ hasB d a) (hb : ¬ hasB d b) : ¬ hasB d (a ++ b) := by
  unfold hasB at *
  rw [ba_app, List.mem_append]
  rintro (q | q)
  · exact ha q
  · exact hb q
theorem prS_noslash {a : Int} (a0 : 0 ≤ a) (a1 : a ≤ 4294967295) : ¬ hasB 47 (prS a) := by
  have hd : ¬ hasB 47 dot := by
    show ¬ (47 : UInt8) ∈ [46]
    decide
  unfold prS
  exact hasB_app (small (by omega) (by omega)).2.2.2 (hasB_app hd (hasB_app (small (by omega) (by omega)).2.2.2 (hasB_app hd (hasB_app (small (by omega) (by omega)).2.2.2 (hasB_app hd (small (by omega) (by omega)).2.2.2)))))
/-- What the program reads, the document reads. -/
theorem qf_of {s : ByteArray} {a n : Int} (a0 : 0 ≤ a) (a1 : a ≤ 4294967295) (hc : chkN a n = 0) (h : prS a ++ (slash ++ digS n) = s) : qfV s = ((a, n), 0) := by
  obtain ⟨n0, n1, _⟩ := chk_0 hc
  unfold qfV
  rw [← h]
  show qfL (splitD 47 (prS a ++ (sepB 47 ++ digS n))) = _
  rw [splitD_cons (prS_noslash a0 a1), splitD_one (small n0 (by omega)).2.2.2]
  show (if _ then _ else _) = _
  rw [rf_prS a0 a1, (small32 n0 n1).1, if_pos ⟨rfl, n0, hc⟩]
/-- What the document reads, the program reads. -/
theorem px_of {s : ByteArray} {a n : Int} (h : qfV s = ((a, n), 0)) : pxV s = ((a, n), 0) := by
  unfold qfV at h
  match hp : splitD 47 s with
  | [] => rw [hp] at h; simp [qfL] at h
  | [_] => rw [hp] at h; simp [qfL] at h
  | _ :: _ :: _ :: _ => rw [hp] at h; simp [qfL] at h
  | [x, y] =>
    rw [hp] at h
    change (if _ then _ else _) = _ at h
    split at h
    · rename_i q
      injection h with h _
      injection h with ha hn
      obtain ⟨q1, q2, q3⟩ := q
      obtain ⟨t, e1, hp2⟩ := split_next hp
      have e2 := split_last hp2
      have hx := (split_head hp).1
      subst e2
      obtain ⟨ey, _⟩ := cnt_dig (x := t) (m := 32) (by decide) q2
      obtain ⟨n0, n1, _⟩ := chk_0 q3
      have hr : rfV x = ((rfV x).1, 0) := by rw [← q1]
      obtain ⟨r1, _, r2, r3⟩ := rf_ok hr
      obtain ⟨c1, c2⟩ := cut_at (y := t) hx
      rw [← e1] at c1 c2
      unfold pxV
      rw [c1, c2]
      have hat : atoiAll t.data.toList = .ok (cntN t 32) := by
        have := (small32 n0 n1).2
        rwa [← ey] at this
      rw [hat]
      have hpp : ppV (rfV x).1 (cntN t 32) = (s, 0) := by
        unfold ppV
        rw [if_pos q3, r1, ← ey, e1]
        rfl
      show (if _ then _ else _) = _
      rw [hpp, if_pos ⟨q1, rfl, rfl⟩, ha, hn]
    · injection h with _ h; cases h
theorem px_qf (s : ByteArray) : pxV s = qfV s := by
  have hq : ∀ p, qfV s = p → p.2 = 0 ∨ p = ((0, 0), 4) := by
    rintro p rfl
    unfold qfV qfL
    split
    · split
      · exact .inl rfl
      · exact .inr rfl
    · exact .inr rfl
  rcases hq _ rfl with h | h
  · have e : qfV s = (((qfV s).1.1, (qfV s).1.2), 0) := by rw [← h]
    rw [px_of e, ← e]
  · unfold pxV
    split
    · rename_i n hn
      split
      · rename_i q
        obtain ⟨q1, q2, q3⟩ := q
        obtain ⟨⟨a0, a1⟩, _⟩ := rf_rng (cutA s)
        have hc : chkN (rfV (cutA s)).1 n = 0 := by
          unfold ppV at q2
          split at q2
          · assumption
          · exact q2
        have e : prS (rfV (cutA s)).1 ++ (slash ++ digS n) = s := by
          unfold ppV at q3
          rw [if_pos hc] at q3
          exact q3
        exact (qf_of a0 a1 hc e).symm
      · exact h.symm
    · exact h.symm
end Go.Proofs.YtdkgekmjkindmaaDoor
