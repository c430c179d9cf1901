/- The law OutqSays: the pieces as contracts in letters. -/
import Derived.Test.YthjigajielhkfaaOq0
import Derived.Test.YthjigajielhkfaaOqP
namespace Go.Proofs.Ythjigajielhkfaa
open Go.RowKit Sy
set_option linter.unusedVariables false
set_option linter.unusedSimpArgs false

theorem hasB_ok {ρ : Env} {β : Bn} {S : Nat → Prop} {w0 w : World} {β0 : Bn} {n0 : Nat} {s : Sy.St} {a : Act} (hM : Md ρ S w0 β0 n0 s β a w) {l : Nat} {b : Bk} (hb : Sy.find l oqHp = some b) (h : hasB l s = true) : b ∈ s.hp ∧ BkOk ρ β w b := by
  unfold hasB at h
  rw [hb] at h
  simp only [] at h
  obtain ⟨x, hx, e⟩ := List.any_eq_true.1 h
  rw [sameBk_eq e]
  exact ⟨hx, hM.hp x hx⟩
/-- The letters tell what holds between the two queues. -/
abbrev OqAt (ρ : Env) (K : Int) : Prop := OqRel (ρ.s 0) (ρ.s 1) (ρ.b 0) (ρ.i 2) (ρ.i 3) (ρ.i 4) (ρ.i 5) (ρ.i 6) K
structure OqPc (ρ : Env) (lo limit mss : Int) : Prop where
  l0 : ρ.i 2 ≤ lo
  l1 : lo ≤ ((ρ.s 0).size : Int) + 1 + b1 (ρ.b 0)
  a : (ρ.s 0).size ≤ 576460752303423488
  m0 : -9223372036854775808 ≤ limit
  m1 : limit ≤ 9223372036854775807
  n0 : -9223372036854775808 ≤ mss
  n1 : mss ≤ 9223372036854775807
  s : (ρ.s 303).size ≤ 576460752303423488
  v : pcV (((ρ.s 0).size : Int) + 1) (ρ.b 0) lo limit mss ((ρ.s 0).extract (lo - 1).toNat (lo - 1 + pcM (((ρ.s 0).size : Int) + 1) lo limit mss).toNat) = .tuple #[.agg #[.int .i64 (ρ.i 300), .bool (ρ.b 301), .bool (ρ.b 302), .string (ρ.s 303)], .bool (ρ.b 304)]
theorem oqLenB_ok {ρ : Env} (h : (ρ.s 303).size ≤ 576460752303423488) : Bds ρ oqLenB := by
  intro x hx
  change x ∈ [_] at hx
  simp only [List.mem_cons, List.not_mem_nil, or_false] at hx
  subst hx
  show (0 : Int) ≤ ((ρ.s 303).size : Int) ∧ ((ρ.s 303).size : Int) ≤ 576460752303423488
  omega
set_option maxRecDepth 100000 in
theorem pcSp_ok {ρ : Env} {K : Int} {lo limit mss : Tm} (hr : OqAt ρ K) (hp : OqPc ρ (den ρ lo).i (den ρ limit).i (den ρ mss).i) : (pcSp lo limit mss).Ok Try.prog ρ := by
  refine memSp_ok (oqLenB_ok hp.s) fun S w0 β0 n0 s xs β a w hok hM => ?_
  simp only [Bool.and_eq_true] at hok
  obtain ⟨h1, h2, h3⟩ := hok
  have e1 := sameT_eq h1
  subst e1
  obtain ⟨m2, k2⟩ := hasB_ok hM (b := ⟨0, 176, oqQ, true, none⟩) rfl h2
  obtain ⟨m3, k3⟩ := hasB_ok hM (b := ⟨4, 5, ownCs true, true, some (.sv 1)⟩) rfl h3
  have hs := hr.size
  have hbs := b1_bd (ρ.b 0)
  have hb2 := hr.hbase
  have hn := hr.hn
  have g0 := hr.a0
  have q0 := hp.l0
  have q1 := hp.l1
  have qa := hp.a
  have q2 := hr.s1
  have hB : Blk w (β 0) 176 (qCells (β 4) (β 5) ((ρ.s 1).size : Int) (ρ.i 5) (ρ.i 2) (ρ.i 3) (ρ.i 4) (ρ.b 0)) := by
    have : Blk w (β 0) 176 (denL ρ β oqQ) := k2
    rw [← hn]
    exact this
  have hR : RowB w (β 4) (β 5) 5 true (ρ.s 1).data.toList := k3
  have hcut := fun h1 => pc_cut (limit := (den ρ limit).i) (mss := (den ρ mss).i) hr q0 h1
  refine (piece_calls (β 0) (β 4) (β 5) (ρ.s 1) (ρ.i 5) (ρ.i 2) (ρ.i 3) (ρ.i 4) (den ρ lo).i (den ρ limit).i (den ρ mss).i (ρ.b 0) ((ρ.s 0).extract ((den ρ lo).i - 1).toNat ((den ρ lo).i - 1 + pcM (((ρ.s 0).size : Int) + 1) (den ρ lo).i (den ρ limit).i (den ρ mss).i).toNat) w hB hR ?_ (by omega) (by omega) (by omega) (by omega) (by omega) ⟨hp.m0, hp.m1⟩ ⟨hp.n0, hp.n1⟩ ?_ hcut).mono ?_
  · intro hc
    exact hM.ne _ m2 _ m3 (by decide) (.inl rfl) (.inr hc)
  · intro h1
    omega
  · rintro e w' ⟨rfl, hb⟩
    refine ⟨?_, hb⟩
    rw [show ρ.i 5 + ((ρ.s 1).size : Int) = ((ρ.s 0).size : Int) + 1 from by omega, hp.v]
    rfl
set_option maxRecDepth 100000 in
theorem atSp_ok {ρ : Env} {K : Int} {lo limit mss : Tm} (hr : OqAt ρ K) (hp : OqPc ρ (den ρ lo).i (den ρ limit).i (den ρ mss).i) : (atSp lo limit mss).Ok Try.prog ρ := by
  refine memSp_ok (oqLenB_ok hp.s) fun S w0 β0 n0 s xs β a w hok hM => ?_
  simp only [Bool.and_eq_true] at hok
  obtain ⟨h1, h2⟩ := hok
  have e1 := sameT_eq h1
  subst e1
  obtain ⟨m2, k2⟩ := hasB_ok hM (b := ⟨2, 44, oqR, true, none⟩) rfl h2
  have hbs := b1_bd (ρ.b 0)
  have g0 := hr.a0
  have q0 := hp.l0
  have q1 := hp.l1
  have qa := hp.a
  have hB : Blk w (β 2) 44 (outCells (ρ.s 0) (ρ.b 0) (ρ.i 2) (ρ.i 3) (ρ.i 4)) := k2
  refine (at_calls (β 2) (ρ.s 0) (ρ.b 0) (ρ.i 2) (ρ.i 3) (ρ.i 4) (den ρ lo).i (den ρ limit).i (den ρ mss).i _ w hB ⟨qa, by omega, by omega, hp.m0, hp.m1, hp.n0, hp.n1⟩ (fun _ => rfl)).mono ?_
  rintro e w' ⟨v, rfl, rfl, hb⟩
  refine ⟨?_, hb⟩
  rw [hp.v]
  rfl
end Go.Proofs.Ythjigajielhkfaa
