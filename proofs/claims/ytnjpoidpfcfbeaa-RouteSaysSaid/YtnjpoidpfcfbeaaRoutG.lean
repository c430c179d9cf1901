/- Routes: the contracts of the reference's All and Find. -/
import Derived.Test.YtnjpoidpfcfbeaaRoutF
namespace Go.Proofs.Ytnjpoidpfcfbeaa
open Go.RowKit Sy
set_option linter.unusedVariables false
set_option linter.unusedSimpArgs false

def roE (rows : Rws) (x y z : Int) : Env := { mkEnv0 [] [] [] [] with
  i := fun n => if n = 20 then x else if n = 21 then y else if n = 24 then z else 0
  c := fun n => if n = 0 then rows else []
  f := rtF }
def roNm (g a c : Nat) : Bn := fun l => if l = 0 then g else if l = 40 then a else if l = 41 then c else 0
section
variable {w : World} {g a c : Nat} {rows : Rws} {x y z : Int}
theorem ro_init (h : Hold 93 171 rLv w g a c rows) {cx : Cx} {nx : Nat} (hcx : cx.ok (roE rows x y z)) : Md (roE rows x y z) (fun _ => False) w (roNm g a c) 4 ⟨[], [roO false, roTb], cx, nx⟩ (roNm g a c) ⟨#[], []⟩ w := by
  refine Sy.Md.init ⟨?_, h.tab, trivial⟩ ⟨⟨fun _ hr => ?_, trivial⟩, trivial, trivial⟩ ⟨fun q => (by cases q), fun q => (by cases q), trivial⟩ hcx rfl
  · show Blk w g 93 [sltZ a c 3 0 ((rows.length : Int)).toNat 0]
    rw [sltZ_zero, Int.toNat_natCast]
    exact h.obj
  · exact apart.of rfl rfl (fun e => h.ne (hr.resolve_left (by simp [roTb, Bk.nilable, Xt.isTab])) e.symm)
theorem row_at {rows : Rws} {k : Nat} (hk : k < rows.length) : rows.take (k + 1) = rows.take k ++ [rows.getD k []] := by
  rw [List.take_succ_eq_append_getElem hk, List.getD_eq_getElem?_getD, List.getElem?_eq_getElem hk]
  rfl
theorem gR_i {ρ : Env} (hc : ρ.c 0 = rows) : (den ρ (gR 0)).i = rAd (rows.getD (ρ.i 0).toNat []) ∧ (den ρ (gR 1)).i = rBi (rows.getD (ρ.i 0).toNat []) ∧ (den ρ (gR 2)).i = rVi (rows.getD (ρ.i 0).toNat []) := by
  subst hc
  exact ⟨rfl, rfl, rfl⟩
theorem ltI_iff {ρ : Env} (hc : ρ.c 0 = rows) : (den ρ (.lt (.iv 0) (.tb .len (.cv 0) (.il 0) (.il 0)))).b = true ↔ ρ.i 0 < (rows.length : Int) := by
  rw [t_lt]
  subst hc
  exact Iff.rfl
/-! All. -/
structure RlI (rows : Rws) (ρ : Env) : Prop where
  g : ρ.good
  c0 : ρ.c 0 = rows
  i0 : 0 ≤ ρ.i 0
  le : ρ.i 0 ≤ (rows.length : Int)
  i1 : ρ.i 1 = ρ.i 0
  c1 : ρ.c 1 = alR (rows.take (ρ.i 0).toNat)
theorem RlI.len {ρ : Env} (I : RlI rows ρ) : ((ρ.c 1).length : Int) = ρ.i 0 := by
  have := I.i0
  have := I.le
  rw [I.c1, alR_len, List.length_take]
  omega
theorem RlI.cx {ρ : Env} (I : RlI rows ρ) (l64 : rows.length ≤ 64) : rlCx.ok ρ := by
  have i0 := I.i0
  have le := I.le
  have i1 := I.i1
  have hl := I.len
  have hl0 : ((ρ.c 0).length : Int) = (rows.length : Int) := by rw [I.c0]
  refine cxP ⟨?_, ?_, ?_, ?_, trivial⟩ ⟨?_, ?_, ?_, trivial⟩
  · show 0 ≤ ρ.i 0 ∧ ρ.i 0 ≤ 64; omega
  · show 0 ≤ ρ.i 1 ∧ ρ.i 1 ≤ 64; omega
  · show (0 : Int) ≤ ((ρ.c 1).length : Int) ∧ ((ρ.c 1).length : Int) ≤ 64; omega
  · show (0 : Int) ≤ ((ρ.c 0).length : Int) ∧ ((ρ.c 0).length : Int) ≤ 64; omega
  · rw [t_le]; show ρ.i 0 ≤ ((ρ.c 0).length : Int); omega
  · rw [t_le]; show ρ.i 1 ≤ ((ρ.c 1).length : Int); omega
  · rw [t_le]; show ((ρ.c 1).length : Int) ≤ ρ.i 1; omega
set_option maxRecDepth 100000 in
theorem rall_calls (h : Hold 93 171 rLv w g a c rows) (l64 : rows.length ≤ 64) : Calls Try.prog 58 #[ptv g] w (RetP fun v w' => NewTab w w' v 29 xLv (alR rows)) := by
  have hM0 := ro_init (x := 0) (y := 0) (z := 0) (nx := 50) h (cx := ⟨[lnB], []⟩) (cxP ⟨(show (0 : Int) ≤ (rows.length : Int) ∧ (rows.length : Int) ≤ 64 by omega), trivial⟩ trivial)
  refine calls_pre (B := ⟨roE rows 0 0 0, fun _ => False, w, roNm g a c, 4⟩) (sp := []) (p := rlP) (xs := rlA) (s := rlSt) (r := rl0 Try.prog Try.f58) (fun i => rfl) (fun q hq => by cases hq) rfl Try.func58 rfl rfl rl_run0 hM0 ⟨?_, trivial⟩ rfl
  intro hpc β ac w1 M
  show (Sy.sub rlP (bodyOf Try.f58)).wp Try.prog (ctx Try.prog rlP (bodyOf Try.f58) _) ac w1
  have q := rl_fr
  simp only [Bool.and_eq_true] at q
  obtain ⟨β1, M1⟩ := Sy.Md.tabSlot (show Md (roE rows 0 0 0) (fun _ => False) w (roNm g a c) 4 (lfAt (rl0 Try.prog Try.f58) 0) β ac w1 from M) 3 60 29 xLv (by decide) q.1 q.2
  have I0 : ∀ u, RlI rows { (roE rows 0 0 0).sub β1 [.i 1 (.il 0), .i 0 (.il 0), .c 1 tn] with u := u } := fun u => ⟨fun i => rfl, rfl, Int.le_refl 0, (by show (0 : Int) ≤ (rows.length : Int); omega), rfl, rfl⟩
  obtain ⟨u, β2, M2⟩ := Sy.Md.enter M1 rl_in (fun u => by rw [rl_cx]; exact (I0 u).cx l64)
  rw [rl_loop]
  refine loop_wp (r := rl1 Try.prog Try.f58) rfl rl_run1 (RlI rows) (fun ρ => ((rows.length : Int) - ρ.i 0).toNat) (fun ρ I => I.g) (fun _ _ q hq => by cases hq) (fun ρ I => by rw [rl_cx]; exact I.cx l64) (fun ρ I => ?_) (I0 u) M2
  have i0 := I.i0
  have le := I.le
  obtain ⟨ga, gb, _⟩ := gR_i I.c0
  refine ⟨?_, ?_, trivial⟩
  · intro hpc β u
    have q := (ltI_iff I.c0).1 hpc.1
    have hk : (ρ.i 0).toNat < rows.length := by omega
    refine ⟨⟨I.g, I.c0, ?_, ?_, ?_, ?_⟩, ?_⟩
    · show 0 ≤ ρ.i 0 + 1; omega
    · show ρ.i 0 + 1 ≤ _; omega
    · show ((ρ.c 1).length : Int) + 1 = ρ.i 0 + 1
      rw [I.len]
    · show ρ.c 1 ++ [[Value.int .u32 (den ρ (gR 0)).i, .int .i64 (den ρ (gR 1)).i]] = alR (rows.take (ρ.i 0 + 1).toNat)
      rw [show (ρ.i 0 + 1).toNat = (ρ.i 0).toNat + 1 by omega, row_at hk, alR_app, I.c1, ga, gb]
      rfl
    · show ((rows.length : Int) - (ρ.i 0 + 1)).toNat < ((rows.length : Int) - ρ.i 0).toNat; omega
  · intro hpc β3 a3 w3 M3
    have q := hpc.1
    rw [t_not, ltI_iff I.c0] at q
    have M3 : Md ρ (fun _ => False) w (roNm g a c) 4 (lfAt (rl1 Try.prog Try.f58) 1) β3 a3 w3 := M3
    refine aft_fin (B := ⟨ρ, fun _ => False, w, roNm g a c, 4⟩) (sp := []) (lim := 10) (fuel := 400) I.g (fun q hq => by cases hq) rfl (.exit 0) rl_end ⟨?_, trivial⟩ M3
    intro _ β4 w4 hH
    have mT : waTb 60 (.cv 1) ∈ rlEnd := List.mem_cons_of_mem _ (List.mem_cons_self ..)
    have hT : RowT w4 (β4 60) (β4 61) 29 xLv (ρ.c 1) := hH.hp _ mT
    have ec : ρ.c 1 = alR rows := by rw [I.c1, List.take_of_length_le (by omega)]
    rw [ec] at hT
    refine ⟨Sy.Only.below_all hH.only, β4 60, β4 61, ?_, hT, ?_⟩
    · show sltZ (β4 60) (β4 61) 2 0 (ρ.i 1).toNat 0 = _
      have := I.i1
      rw [sltZ_zero, alR_len, show (ρ.i 1).toNat = rows.length by omega]
    · by_cases hc : β4 61 = 0
      · exact .inl hc
      · exact .inr ((hH.may0 _ mT rfl (.inr hc)).resolve_left fun q => q)
/-! Find. -/
structure RfI (rows : Rws) (x : Int) (ρ : Env) : Prop where
  e : FfE x ((rows.take (ρ.i 0).toNat).foldl (fiS x) none) ρ
  c0 : ρ.c 0 = rows
  f : ρ.f = rtF
  i0 : 0 ≤ ρ.i 0
  le : ρ.i 0 ≤ (rows.length : Int)
theorem RfI.cx {ρ : Env} (I : RfI rows x ρ) (l64 : rows.length ≤ 64) (x0 : 0 ≤ x) (x1 : x ≤ 4294967295) : rfCx.ok ρ := by
  have i0 := I.i0
  have le := I.le
  have hl0 : ((ρ.c 0).length : Int) = (rows.length : Int) := by rw [I.c0]
  obtain ⟨q1, q2, q3⟩ := fi_bd ((rows.take (ρ.i 0).toNat).foldl (fiS x) none)
  refine cxP ⟨?_, ?_, ?_, ?_, ?_, ?_, trivial⟩ ⟨?_, trivial⟩
  · show 0 ≤ ρ.i 0 ∧ ρ.i 0 ≤ 64; omega
  · show (0 : Int) ≤ ((ρ.c 0).length : Int) ∧ ((ρ.c 0).length : Int) ≤ 64; omega
  · show 0 ≤ ρ.i 20 ∧ ρ.i 20 ≤ 4294967295; rw [I.e.i20]; exact ⟨x0, x1⟩
  · show _ ≤ ρ.i 23 ∧ ρ.i 23 ≤ _; rw [I.e.i23]; exact q1
  · show _ ≤ ρ.i 24 ∧ ρ.i 24 ≤ _; rw [I.e.i24]; exact q2
  · show _ ≤ ρ.i 25 ∧ ρ.i 25 ≤ _; rw [I.e.i25]; exact q3
  · rw [t_le]; show ρ.i 0 ≤ ((ρ.c 0).length : Int); omega
theorem has_hsN (x : Int) (r : List Value) : hasB x r = hsN (rAd r) (rBi r) x := rfl
set_option maxRecDepth 100000 in
theorem rfind_calls (h : Hold 93 171 rLv w g a c rows) (l64 : rows.length ≤ 64) (x0 : 0 ≤ x) (x1 : x ≤ 4294967295) : Calls Try.prog 60 #[ptv g, .int .u32 x] w (RetP (FfPost w rows x)) := by
  have hM0 := ro_init (x := x) (y := 0) (z := 0) (nx := 50) h (cx := ⟨[lnB, u32B 20], []⟩) (cxP ⟨(show (0 : Int) ≤ (rows.length : Int) ∧ (rows.length : Int) ≤ 64 by omega), ⟨x0, x1⟩, trivial⟩ trivial)
  refine calls_pre (B := ⟨roE rows x 0 0, fun _ => False, w, roNm g a c, 4⟩) (sp := []) (p := rfP) (xs := ffA) (s := rfSt) (r := rf0 Try.prog Try.f60) (fun i => rfl) (fun q hq => by cases hq) rfl Try.func60 rfl rfl rf_run0 hM0 ⟨?_, trivial⟩ rfl
  intro hpc β ac w1 M
  show (Sy.sub rfP (bodyOf Try.f60)).wp Try.prog (ctx Try.prog rfP (bodyOf Try.f60) _) ac w1
  have I0 : ∀ u, RfI rows x { (roE rows x 0 0).sub β [.b 23 (.bl false), .i 0 (.il 0), .i 24 (.il 0), .i 25 (.il 0), .i 23 (.il 0)] with u := u } := fun u => ⟨⟨fun i => rfl, rfl, rfl, rfl, rfl, rfl⟩, rfl, rfl, Int.le_refl 0, (by show (0 : Int) ≤ (rows.length : Int); omega)⟩
  obtain ⟨u, β2, M2⟩ := Sy.Md.enter (show Md (roE rows x 0 0) (fun _ => False) w (roNm g a c) 4 (lfAt (rf0 Try.prog Try.f60) 0) β ac w1 from M) rf_in (fun u => by rw [rf_cx]; exact (I0 u).cx l64 x0 x1)
  rw [rf_loop]
  refine loop_wp (r := rf1 Try.prog Try.f60) (sp := [hsSp]) rfl rf_run1 (RfI rows x) (fun ρ => ((rows.length : Int) - ρ.i 0).toNat) (fun ρ I => I.e.good) (fun ρ I q hq => by rw [List.mem_singleton.1 hq]; exact hsSp_ok I.f) (fun ρ I => by rw [rf_cx]; exact I.cx l64 x0 x1) (fun ρ I => ?_) (I0 u) M2
  have i0 := I.i0
  have le := I.le
  obtain ⟨ga, gb, gv⟩ := gR_i I.c0
  have hH : (den ρ rfH).b = hasB x (rows.getD (ρ.i 0).toNat []) := by
    show (ρ.f 31 (den ρ (gR 0)) (den ρ (gR 1)) (dI (ρ.i 20))).b = _
    rw [I.f]
    show hsN (den ρ (gR 0)).i (den ρ (gR 1)).i (ρ.i 20) = _
    rw [ga, gb, I.e.i20, has_hsN]
  -- the next row
  have step : (den ρ (.lt (.iv 0) (.tb .len (.cv 0) (.il 0) (.il 0)))).b = true → ∀ {b : Option (List Value)}, fiS x ((rows.take (ρ.i 0).toNat).foldl (fiS x) none) (rows.getD (ρ.i 0).toNat []) = b → ((rows.take (ρ.i 0 + 1).toNat).foldl (fiS x) none) = b ∧ (0 ≤ ρ.i 0 + 1 ∧ ρ.i 0 + 1 ≤ (rows.length : Int)) ∧ ((rows.length : Int) - (ρ.i 0 + 1)).toNat < ((rows.length : Int) - ρ.i 0).toNat := fun q b hb => by
    rw [ltI_iff I.c0] at q
    have hk : (ρ.i 0).toNat < rows.length := by omega
    refine ⟨?_, by omega, by omega⟩
    rw [show (ρ.i 0 + 1).toNat = (ρ.i 0).toNat + 1 by omega, row_at hk, List.foldl_append]
    exact hb
  have E := I.e
  generalize hbest : (rows.take (ρ.i 0).toNat).foldl (fiS x) none = best at E step
  generalize hr : rows.getD (ρ.i 0).toNat [] = r at ga gb gv hH step
  have yes : ∀ (β : Bn) (u : Nat → Value), (den ρ (.lt (.iv 0) (.tb .len (.cv 0) (.il 0) (.il 0)))).b = true → fiS x best r = some r → RfI rows x { ρ.sub β rfAs with u := u } ∧ ((rows.length : Int) - ({ ρ.sub β rfAs with u := u } : Env).i 0).toNat < ((rows.length : Int) - ρ.i 0).toNat := fun β u q hs => by
    obtain ⟨h1, h2, h3⟩ := step q hs
    refine ⟨⟨⟨E.good, E.i20, ?_, ?_, ?_, ?_⟩, I.c0, I.f, h2.1, h2.2⟩, h3⟩
    · show (den ρ (gR 2)).i = fiV ((rows.take (ρ.i 0 + 1).toNat).foldl (fiS x) none); rw [h1, gv]; rfl
    · show true = ((rows.take (ρ.i 0 + 1).toNat).foldl (fiS x) none).isSome; rw [h1]; rfl
    · show (den ρ (gR 0)).i = fiA ((rows.take (ρ.i 0 + 1).toNat).foldl (fiS x) none); rw [h1, ga]; rfl
    · show (den ρ (gR 1)).i = fiN ((rows.take (ρ.i 0 + 1).toNat).foldl (fiS x) none); rw [h1, gb]; rfl
  have no : ∀ (β : Bn) (u : Nat → Value), (den ρ (.lt (.iv 0) (.tb .len (.cv 0) (.il 0) (.il 0)))).b = true → fiS x best r = best → RfI rows x { ρ.sub β [.i 0 (.add (.iv 0) (.il 1))] with u := u } ∧ ((rows.length : Int) - ({ ρ.sub β [.i 0 (.add (.iv 0) (.il 1))] with u := u } : Env).i 0).toNat < ((rows.length : Int) - ρ.i 0).toNat := fun β u q hs => by
    obtain ⟨h1, h2, h3⟩ := step q hs
    refine ⟨⟨⟨E.good, E.i20, ?_, ?_, ?_, ?_⟩, I.c0, I.f, h2.1, h2.2⟩, h3⟩
    · show ρ.i 23 = fiV ((rows.take (ρ.i 0 + 1).toNat).foldl (fiS x) none); rw [h1]; exact E.i23
    · show ρ.b 23 = ((rows.take (ρ.i 0 + 1).toNat).foldl (fiS x) none).isSome; rw [h1]; exact E.b23
    · show ρ.i 24 = fiA ((rows.take (ρ.i 0 + 1).toNat).foldl (fiS x) none); rw [h1]; exact E.i24
    · show ρ.i 25 = fiN ((rows.take (ρ.i 0 + 1).toNat).foldl (fiS x) none); rw [h1]; exact E.i25
  have b23 := E.b23
  have i25 := E.i25
  refine ⟨?_, ?_, ?_, ?_, ?_, trivial⟩
  · intro hpc β u
    obtain ⟨q1, q2, q3, q4, _⟩ := hpc
    refine yes β u q4 ?_
    rw [t_lt] at q1
    change ρ.i 25 < (den ρ (gR 1)).i at q1
    change ρ.b 23 = true at q2
    unfold fiS
    rw [← hH, q3]
    cases hb : best with
    | none => rfl
    | some p =>
      have : betB (some p) r = true := decide_eq_true (by rw [← gb]; rw [hb] at i25; have : ρ.i 25 = rBi p := i25; omega)
      rw [this]
      rfl
  · intro hpc β u
    obtain ⟨q1, q2, q3, q4, _⟩ := hpc
    refine no β u q4 ?_
    rw [t_not, t_lt] at q1
    change ¬ ρ.i 25 < (den ρ (gR 1)).i at q1
    change ρ.b 23 = true at q2
    unfold fiS
    rw [← hH, q3]
    cases hb : best with
    | none => rw [hb] at b23; rw [b23] at q2; cases q2
    | some p =>
      have : betB (some p) r = false := decide_eq_false (by rw [← gb]; rw [hb] at i25; have : ρ.i 25 = rBi p := i25; omega)
      rw [this]
      rfl
  · intro hpc β u
    obtain ⟨q2, q3, q4, _⟩ := hpc
    refine yes β u q4 ?_
    rw [t_not] at q2
    change ¬ ρ.b 23 = true at q2
    unfold fiS
    rw [← hH, q3]
    cases hb : best with
    | none => rfl
    | some p => rw [hb] at b23; exact absurd b23 q2
  · intro hpc β u
    obtain ⟨q3, q4, _⟩ := hpc
    refine no β u q4 ?_
    rw [t_not] at q3
    unfold fiS
    rw [← hH]
    cases q : (den ρ rfH).b with
    | true => exact absurd q q3
    | false => rfl
  · intro hpc β3 a3 w3 M3
    have q := hpc.1
    rw [t_not, ltI_iff I.c0] at q
    have ebest : best = fiO x rows := by
      rw [← hbest, List.take_of_length_le (by omega)]
      rfl
    have M3 : Md ρ (fun _ => False) w (roNm g a c) 4 (lfAt (rf1 Try.prog Try.f60) 4) β3 a3 w3 := M3
    refine part_aft (B := ⟨ρ, fun _ => False, w, roNm g a c, 4⟩) (sp := []) (lim := 10) (fuel := 400) I.e.good (fun q hq => by cases hq) rfl (.exit 0) (r := run Try.prog [] 10 400 4 (.code (aft (.exit 0) rfP (bodyOf Try.f60))) (lfAt (rf1 Try.prog Try.f60) 4)) rfl rf_end' ⟨?_, trivial⟩ M3
    intro _ β4 a4 w4 M4
    refine ret_post (B := ⟨ρ, fun _ => False, w, roNm g a c, 4⟩) M4 (retsB_ok rf_end rfl) ⟨?_, Sy.Only.below_all M4.only⟩
    show Value.tuple #[.int .i64 (ρ.i 23), .agg #[.int .u32 (ρ.i 24), .int .i64 (ρ.i 25)], .bool (ρ.b 23)] = _
    rw [E.i23, E.i24, E.i25, E.b23, ebest]
    rfl
end
end Go.Proofs.Ytnjpoidpfcfbeaa
/- Routes: the contracts of the reference's Drop and Add. -/
namespace Go.Proofs.Ytnjpoidpfcfbeaa
open Go.RowKit Sy
set_option linter.unusedVariables false
set_option linter.unusedSimpArgs false

section
variable {rows : Rws} {x y z : Int}
theorem ix_yes {p : List Value → Bool} : ∀ {l : Rws}, 0 ≤ ixOf p l → p (l.getD (ixOf p l).toNat []) = true := fun {l} h => by
  by_cases hx : ∃ j, j < l.length ∧ p (l.getD j []) = true
  · obtain ⟨j, ⟨h1, h2⟩, h3⟩ := least hx
    rw [ixOf_some h1 (fun i hi => by
      cases q : p (l.getD i []) with
      | false => rfl
      | true => have := h3 i ⟨by omega, q⟩; omega) h2, Int.toNat_natCast]
    exact h2
  · rw [ixOf_none fun j hj => by
      cases q : p (l.getD j []) with
      | false => rfl
      | true => exact absurd ⟨j, hj, q⟩ hx] at h
    omega
theorem getD_mem {l : Rws} {k : Nat} (hk : k < l.length) : l.getD k [] ∈ l := by
  rw [List.getD_eq_getElem?_getD, List.getElem?_eq_getElem hk]; exact List.getElem_mem _
theorem any_ix (p : List Value → Bool) (l : Rws) : l.any p = decide (0 ≤ ixOf p l) := by
  by_cases h : 0 ≤ ixOf p l
  · rw [decide_eq_true h, List.any_eq_true]
    have := rIx_bd p l
    exact ⟨_, getD_mem (by omega), ix_yes h⟩
  · rw [decide_eq_false h, List.any_eq_false]
    intro r hr
    obtain ⟨i, hi, e⟩ := List.getElem_of_mem hr
    have hx : l.getD i [] = r := by rw [List.getD_eq_getElem?_getD, List.getElem?_eq_getElem hi]; exact e
    intro hp
    have hex : ∃ j, j < l.length ∧ p (l.getD j []) = true := ⟨i, hi, by rw [hx]; exact hp⟩
    obtain ⟨j, ⟨h1, h2⟩, h3⟩ := least hex
    rw [ixOf_some h1 (fun i hi => by
      cases q : p (l.getD i []) with
      | false => rfl
      | true => have := h3 i ⟨by omega, q⟩; omega) h2] at h
    omega
theorem split_at {l : Rws} {k : Nat} (hk : k < l.length) : l = l.take k ++ (l.getD k [] :: l.drop (k + 1)) := by
  have : l.getD k [] = l[k] := by rw [List.getD_eq_getElem?_getD, List.getElem?_eq_getElem hk]; rfl
  rw [this, ← List.drop_eq_getElem_cons hk, List.take_append_drop]
theorem sorted_at (R : RtOk rows) {k : Nat} (hk : k < rows.length) : (∀ r ∈ rows.take k, key r < key (rows.getD k [])) ∧ ∀ r ∈ rows.drop (k + 1), key (rows.getD k []) < key r := by
  have h := R.srt
  rw [split_at hk, List.pairwise_append, List.pairwise_cons] at h
  exact ⟨fun r hr => h.2.2 r hr _ (List.mem_cons_self ..), fun r hr => h.2.1.1 r hr⟩
theorem dr_plain (R : RtOk rows) (hc : chkN x y = 0) (h0 : 0 ≤ ixOf (isP x y) rows) : drC rows x y = 0 ∧ drR rows x y = rows.take (ixOf (isP x y) rows).toNat ++ rows.drop ((ixOf (isP x y) rows).toNat + 1) := by
  have hb := rIx_bd (isP x y) rows
  have hk : (ixOf (isP x y) rows).toNat < rows.length := by omega
  have hy := ix_yes h0
  have hkey := isP_key hy
  obtain ⟨s1, s2⟩ := sorted_at R hk
  have h1 : drC rows x y = 0 := by
    unfold drC
    rw [if_neg (by omega), any_ix, decide_eq_true h0]
    rfl
  refine ⟨h1, ?_⟩
  unfold drR
  rw [if_pos h1]
  have := del_mid (pre := rows.take (ixOf (isP x y) rows).toNat) (mid := rows.drop ((ixOf (isP x y) rows).toNat + 1)) (post := []) hy (fun r hr => by rw [← hkey]; exact s1 r hr) (fun r hr => by rw [← hkey]; exact s2 r hr) (fun r hr => by cases hr)
  rw [List.append_nil, List.append_nil, ← split_at hk] at this
  exact this
theorem dr_none (hc : chkN x y = 0) (h0 : ixOf (isP x y) rows < 0) : drC rows x y = 7 ∧ drR rows x y = rows := by
  have h1 : drC rows x y = 7 := drC_7 hc (by rw [any_ix, decide_eq_false (by omega)])
  refine ⟨h1, ?_⟩
  unfold drR
  rw [if_neg (by omega)]
theorem dr_bad (hc : ¬ chkN x y = 0) : drC rows x y = chkN x y ∧ drR rows x y = rows := by
  have h1 : drC rows x y = chkN x y := by unfold drC; rw [if_pos hc]
  refine ⟨h1, ?_⟩
  unfold drR
  rw [if_neg (by omega)]
theorem ad_code (v : Int) (h : adC rows x y ≠ 0) : adR rows x y v = rows := by unfold adR; rw [if_neg h]
/-- The row stands ahead. -/
def lessB (x y : Int) (r : List Value) : Prop := rAd r < x ∨ (rAd r = x ∧ rBi r < y)
theorem less_key {r : List Value} (hr : RRow r) (y0 : 0 ≤ y) (y1 : y ≤ 32) : lessB x y r ↔ key r < x * 64 + y := by
  have := hr.n0
  have := hr.n1
  unfold lessB key
  omega
theorem ad_plain (R : RtOk rows) (hc : chkN x y = 0) (hn : ixOf (isP x y) rows < 0) (hl : ¬ 63 < (rows.length : Int)) {k : Nat} (hk : k ≤ rows.length) (h1 : ∀ r ∈ rows.take k, lessB x y r) (h2 : k < rows.length → ¬ lessB x y (rows.getD k [])) : adC rows x y = 0 ∧ adR rows x y z = rows.take k ++ (mkR x y z :: rows.drop k) := by
  obtain ⟨y0, y1, _⟩ := chk_0 hc
  have hany : rows.any (isP x y) = false := by rw [any_ix, decide_eq_false (by omega)]
  have h0 : adC rows x y = 0 := by
    unfold adC
    rw [if_neg (by omega), hany]
    simp only [Bool.false_eq_true, if_false]
    rw [if_neg hl]
  refine ⟨h0, ?_⟩
  unfold adR
  rw [if_pos h0]
  have big : ∀ r ∈ rows.drop k, x * 64 + y < key r := fun r hr => by
    have hk : k < rows.length := by
      rcases Nat.lt_or_ge k rows.length with q | q
      · exact q
      · rw [List.drop_of_length_le q] at hr; cases hr
    have hm := getD_mem hk
    have hg := R.good _ hm
    have hno : isP x y (rows.getD k []) = false := by
      have := List.any_eq_false.1 hany _ hm
      simpa using this
    have h3 := h2 hk
    rw [less_key hg y0 y1] at h3
    have h4 : key (rows.getD k []) ≠ x * 64 + y := fun e => by
      rw [key_isP hg y0 y1 e] at hno; cases hno
    have e : rows.drop k = rows.getD k [] :: rows.drop (k + 1) := by
      rw [List.getD_eq_getElem?_getD, List.getElem?_eq_getElem hk]
      exact List.drop_eq_getElem_cons hk
    rw [e] at hr
    rcases List.mem_cons.1 hr with rfl | hr
    · omega
    · have := (sorted_at R hk).2 r hr
      omega
  have := ins_mid (pre := rows.take k) (mid := rows.drop k) (post := []) (v := z) (fun r hr => (less_key (R.good r (List.mem_of_mem_take hr)) y0 y1).1 (h1 r hr)) big (fun r hr => by cases hr)
  rw [List.append_nil, List.take_append_drop] at this
  exact this
end
section
variable {w : World} {g a c : Nat} {rows : Rws} {x y z : Int}
theorem ho_init (h : Hold 93 171 rLv w g a c rows) {cx : Cx} {nx : Nat} (hcx : cx.ok (roE rows x y z)) : Md (roE rows x y z) (hoS g a c) w (roNm g a c) 4 ⟨[], [roO', roTb'], cx, nx⟩ (roNm g a c) ⟨#[], []⟩ w := by
  have hr : roTb'.real (roNm g a c) → c ≠ 0 := fun hr => hr.resolve_left (by simp [roTb', Bk.nilable, Xt.isTab])
  refine Sy.Md.init ⟨?_, h.tab, trivial⟩ ⟨⟨fun _ q => ?_, trivial⟩, trivial, trivial⟩ ⟨fun _ _ i hi => .inl (fp_one rfl hi), fun _ q i hi => .inr ⟨hr q, fp_one rfl hi⟩, trivial⟩ hcx rfl
  · show Blk w g 93 [sltZ a c 3 0 ((rows.length : Int)).toNat 0]
    rw [sltZ_zero, Int.toNat_natCast]
    exact h.obj
  · exact apart.of rfl rfl (fun e => h.ne (hr q) e.symm)
/-- What a leaf's blocks say. -/
theorem ho_leaf {ρ : Env} {hp : List Bk} {β : Bn} {w2 : World} (hH : Hp ρ (hoS g a c) w (roNm g a c) 4 hp β w2) {l : Nat} {n t : Tm} (ho : roH l n ∈ hp) (ht : roN l t ∈ hp) (hl : l ≠ 0) {rows' : Rws} (hn : (den ρ n).i = (rows'.length : Int)) (hr : (den ρ t).c = rows') : HoldGo 93 171 rLv w w2 g a c rows' := by
  have k0 : β 0 = g := hH.old 0 (show 0 < 4 by decide)
  have hT : RowT w2 (β l) (β (l + 1)) 171 rLv (den ρ t).c := hH.hp _ ht
  have hO : Blk w2 (β 0) 93 [C.den ρ β (.slt l 3 (.il 0) n (.il 0))] := hH.hp _ ho
  rw [slt_den] at hO
  have hO : Blk w2 (β 0) 93 [sltZ (β l) (β (l + 1)) 3 0 (den ρ n).i.toNat 0] := hO
  rw [hr] at hT
  rw [sltZ_zero, k0, hn, Int.toNat_natCast] at hO
  have n2 : β (l + 1) ≠ 0 → β l ≠ β 0 := fun hc => hH.neq _ ht _ ho hl (.inr hc) (.inl rfl)
  refine ⟨β l, β (l + 1), ⟨hO, hT, fun hc q => n2 hc (q.trans k0.symm)⟩, hH.only, fun hc => ?_⟩
  rcases hH.may0 _ ht rfl (.inr hc) with q | q
  · rcases q with q | q
    · exact absurd (q.trans k0.symm) (n2 hc)
    · exact .inl q
  · exact .inr q
def RdPost (w : World) (g a c : Nat) (rows : Rws) (x y : Int) (v : Value) (w' : World) : Prop := v = .int .i64 (drC rows x y) ∧ HoldGo 93 171 rLv w w' g a c (drR rows x y)
theorem ro_sp {ρ : Env} (hf : ρ.f = rtF) : ∀ q ∈ [rcSp, raSp], q.Ok Try.prog ρ := fun q hq => by
  simp only [List.mem_cons, List.not_mem_nil, or_false] at hq
  rcases hq with rfl | rfl
  · exact rcSp_ok hf
  · exact raSp_ok hf
set_option maxRecDepth 100000 in
theorem rdrop_calls (h : Hold 93 171 rLv w g a c rows) (R : RtOk rows) (x0 : 0 ≤ x) (x1 : x ≤ 4294967295) (y0 : -9223372036854775808 ≤ y) (y1 : y ≤ 9223372036854775807) : Calls Try.prog 55 #[ptv g, pfV x y] w (RetP (RdPost w g a c rows x y)) := by
  have l64 := R.l64
  have hM0 := ho_init (x := x) (y := y) (z := 0) (nx := 50) h (cx := ⟨[lnB, u32B 20, i64B 21, i64B 24], []⟩) (cxP ⟨(show (0 : Int) ≤ (rows.length : Int) ∧ (rows.length : Int) ≤ 64 by omega), ⟨x0, x1⟩, ⟨y0, y1⟩, ⟨show (-9223372036854775808 : Int) ≤ 0 by decide, show (0 : Int) ≤ 9223372036854775807 by decide⟩, trivial⟩ trivial)
  have hix : (den (roE rows x y 0) (.ap 7 (.cv 0) (.iv 20) (.iv 21))).i = ixOf (isP x y) rows := rfl
  have hln : (den (roE rows x y 0) (.tb .len (.cv 0) (.il 0) (.il 0))).i = (rows.length : Int) := rfl
  have hi1 : (den (roE rows x y 0) rdIx1).i = ixOf (isP x y) rows + 1 := rfl
  have hhi : (den (roE rows x y 0) rdHi).i = (ixOf (isP x y) rows + ((rows.length : Int) - (ixOf (isP x y) rows + 1))) + 1 := rfl
  have hck : (den (roE rows x y 0) (.ap 20 (.iv 20) (.iv 21) (.il 0))).i = chkN x y := rfl
  have hbd := rIx_bd (isP x y) rows
  have hc2 : (den (roE rows x y 0) rdC2).c = (rows.drop (ixOf (isP x y) rows + 1).toNat).take (((ixOf (isP x y) rows + ((rows.length : Int) - (ixOf (isP x y) rows + 1))) + 1).toNat - (ixOf (isP x y) rows + 1).toNat) := rfl
  have hl2 : ((den (roE rows x y 0) rdC2).c.length : Int) ≤ 64 := by
    rw [hc2, List.length_take, List.length_drop]
    omega
  have same : ∀ {β : Bn} {w2 : World}, Hp (roE rows x y 0) (hoS g a c) w (roNm g a c) 4 [roO', roTb'] β w2 → HoldGo 93 171 rLv w w2 g a c rows := fun hH => ho_leaf hH (l := 40) (n := tlen (.cv 0)) (t := .cv 0) (List.mem_cons_self ..) (List.mem_cons_of_mem _ (List.mem_cons_self ..)) (by decide) rfl rfl
  refine calls_sm (B := ⟨roE rows x y 0, hoS g a c, w, roNm g a c, 4⟩) (sp := [rcSp, raSp]) (fun i => rfl) (ro_sp rfl) 10 400 Try.func55 rfl pA rdSt _ 4 rfl rd_run hM0 (R := RdPost w g a c rows x y) ⟨?_, ?_, ?_, ?_, ?_, ?_, ?_, ?_, ?_, ?_, trivial⟩ rfl
  · intro hpc β w2 hH
    have q := hpc.1
    rw [t_not, t_eq] at q
    change ¬ chkN x y = 0 at q
    obtain ⟨e1, e2⟩ := dr_bad (rows := rows) q
    refine ⟨?_, ?_⟩
    · show Value.int .i64 (chkN x y) = _
      rw [e1]
    · rw [e2]; exact same hH
  · intro hpc β w2 hH
    obtain ⟨q1, q2, _⟩ := hpc
    rw [t_lt, hix] at q1
    change _ < (0 : Int) at q1
    rw [t_eq] at q2
    change chkN x y = 0 at q2
    obtain ⟨e1, e2⟩ := dr_none q2 q1
    refine ⟨?_, ?_⟩
    · show Value.int .i64 7 = _
      rw [e1]
    · rw [e2]; exact same hH
  · intro hpc
    rw [t_le, hix, hln]
    omega
  · intro hpc
    rw [t_le, hi1, hln]
    omega
  · intro hpc
    rw [t_le, hi1, hln]
    omega
  · intro hpc
    rw [t_le, hi1, hln]
    omega
  · intro hpc
    rw [t_le, hix, hln]
    omega
  · intro hpc
    rw [t_le, hhi, hln]
    omega
  · intro hpc
    unfold rdM
    rw [t_le]
    show (ixOf (isP x y) rows + ((den (roE rows x y 0) rdC2).c.length : Int)) * 24 ≤ 140737488355328
    omega
  · intro hpc β w2 hH
    obtain ⟨_, _, _, _, q, q2, _⟩ := hpc
    rw [t_not, t_lt, hix] at q
    change ¬ _ < (0 : Int) at q
    rw [t_eq] at q2
    change chkN x y = 0 at q2
    obtain ⟨e1, e2⟩ := dr_plain R q2 (by omega)
    obtain ⟨k, hk⟩ : ∃ k : Nat, ixOf (isP x y) rows = (k : Int) := ⟨(ixOf (isP x y) rows).toNat, by omega⟩
    have hkr : k < rows.length := by omega
    rw [hk, Int.toNat_natCast] at e2
    refine ⟨?_, ?_⟩
    · show Value.int .i64 0 = _
      rw [e1]
    · rw [e2]
      have e3 : (den (roE rows x y 0) rdC2).c = rows.drop (k + 1) := by
        rw [hc2, hk]
        have : ((k : Int) + 1).toNat = k + 1 := by omega
        rw [this, List.take_of_length_le (by rw [List.length_drop]; omega)]
      refine ho_leaf hH (l := 82) (n := .add (.ap 7 (.cv 0) (.iv 20) (.iv 21)) (tlen rdC2)) (t := rdT) (List.mem_cons_of_mem _ (List.mem_cons_self ..)) (List.mem_cons_self ..) (by decide) ?_ ?_
      · show ixOf (isP x y) rows + ((den (roE rows x y 0) rdC2).c.length : Int) = _
        rw [e3, hk, List.length_append, List.length_take, List.length_drop]
        omega
      · show (rows.drop 0).take ((ixOf (isP x y) rows).toNat - 0) ++ (den (roE rows x y 0) rdC2).c = _
        rw [e3, hk, Int.toNat_natCast, List.drop_zero, Nat.sub_zero]
/-! Add. -/
def RiPost (w : World) (g a c : Nat) (rows : Rws) (x y z : Int) (v : Value) (w' : World) : Prop := v = .int .i64 (adC rows x y) ∧ HoldGo 93 171 rLv w w' g a c (adR rows x y z)
structure RiI (rows : Rws) (x y z : Int) (ρ : Env) : Prop where
  g : ρ.good
  c0 : ρ.c 0 = rows
  i0 : 0 ≤ ρ.i 0
  le : ρ.i 0 ≤ (rows.length : Int)
  i20 : ρ.i 20 = x
  i21 : ρ.i 21 = y
  i24 : ρ.i 24 = z
  ls : ∀ r ∈ rows.take (ρ.i 0).toNat, lessB x y r
theorem RiI.cx {ρ : Env} (I : RiI rows x y z ρ) (l63 : rows.length ≤ 63) (x0 : 0 ≤ x) (x1 : x ≤ 4294967295) (y0 : 0 ≤ y) (y1 : y ≤ 32) (z0 : -9223372036854775808 ≤ z) (z1 : z ≤ 9223372036854775807) : riCx.ok ρ := by
  have i0 := I.i0
  have le := I.le
  have hl0 : ((ρ.c 0).length : Int) = (rows.length : Int) := by rw [I.c0]
  refine cxP ⟨?_, ?_, ?_, ?_, ?_, trivial⟩ ⟨?_, trivial⟩
  · show 0 ≤ ρ.i 0 ∧ ρ.i 0 ≤ 63; omega
  · show (0 : Int) ≤ ((ρ.c 0).length : Int) ∧ ((ρ.c 0).length : Int) ≤ 63; omega
  · show 0 ≤ ρ.i 20 ∧ ρ.i 20 ≤ 4294967295; rw [I.i20]; exact ⟨x0, x1⟩
  · show 0 ≤ ρ.i 21 ∧ ρ.i 21 ≤ 32; rw [I.i21]; exact ⟨y0, y1⟩
  · show _ ≤ ρ.i 24 ∧ ρ.i 24 ≤ _; rw [I.i24]; exact ⟨z0, z1⟩
  · rw [t_le]; show ρ.i 0 ≤ ((ρ.c 0).length : Int); omega
set_option maxRecDepth 100000 in
theorem ri_fin (R : RtOk rows) (hc : chkN x y = 0) (hn : ixOf (isP x y) rows < 0) (hl : ¬ 63 < (rows.length : Int)) (x0 : 0 ≤ x) (x1 : x ≤ 4294967295) (z0 : -9223372036854775808 ≤ z) (z1 : z ≤ 9223372036854775807) {ρ : Env} (I : RiI rows x y z ρ) (h2 : ρ.i 0 < (rows.length : Int) → ¬ lessB x y (rows.getD (ρ.i 0).toNat [])) {s : Sy.St} (hm : (matchS 4 (riX Try.prog Try.f53) s).map noU = some []) {β : Bn} {ac : Act} {w1 : World} (M : Md ρ (hoS g a c) w (roNm g a c) 4 s β ac w1) :
    ctx Try.prog riP (bodyOf Try.f53) (bodyPost Try.prog Try.f53 (RetP (RiPost w g a c rows x y z))) (Ex.exit 0).to ac w1 := by
  obtain ⟨y0, y1, _⟩ := chk_0 hc
  have I1 : ∀ u, RiI rows x y z { ρ.sub β [] with u := u } := fun u => ⟨I.g, I.c0, I.i0, I.le, I.i20, I.i21, I.i24, I.ls⟩
  obtain ⟨u, β1, M1⟩ := Sy.Md.enter M hm (fun u => (I1 u).cx (by omega) x0 x1 y0 y1 z0 z1)
  have I2 := I1 u
  have h2 : ({ ρ.sub β [] with u := u } : Env).i 0 < (rows.length : Int) → ¬ lessB x y (rows.getD (({ ρ.sub β [] with u := u } : Env).i 0).toNat []) := h2
  generalize ({ ρ.sub β [] with u := u } : Env) = ρ1 at M1 I2 h2
  clear I1 M I
  have i0 := I2.i0
  have le := I2.le
  have hl0 : (den ρ1 (.tb .len (.cv 0) (.il 0) (.il 0))).i = (rows.length : Int) := by show ((ρ1.c 0).length : Int) = _; rw [I2.c0]
  obtain ⟨k, hk⟩ : ∃ k : Nat, ρ1.i 0 = (k : Int) := ⟨(ρ1.i 0).toNat, by omega⟩
  have hkl : k ≤ rows.length := by omega
  have eC : (den ρ1 riCt).c = rows.drop k := by
    show ((ρ1.c 0).drop (ρ1.i 0).toNat).take ((ρ1.i 0 + (((ρ1.c 0).length : Int) - ρ1.i 0)).toNat - (ρ1.i 0).toNat) = _
    rw [I2.c0, hk, Int.toNat_natCast, List.take_of_length_le (by rw [List.length_drop]; omega)]
  have eL : ((den ρ1 riCt).c.length : Int) = (rows.length : Int) - k := by rw [eC, List.length_drop]; omega
  have eR : (den ρ1 riT1).c = mkR x y z :: rows.drop k := by
    show [[Value.int .u32 (ρ1.i 20), .int .i64 (ρ1.i 21), .int .i64 (ρ1.i 24)]] ++ (den ρ1 riCt).c = _
    rw [eC, I2.i20, I2.i21, I2.i24]
    rfl
  have e2 : (den ρ1 riT2).c = mkR x y z :: rows.drop k := by
    show ((den ρ1 riT1).c.drop 0).take ((((den ρ1 riCt).c.length : Int) + 1).toNat - 0) = _
    rw [eR, eL, List.drop_zero, List.take_of_length_le (by rw [List.length_cons, List.length_drop]; omega)]
  have e2l : ((den ρ1 riT2).c.length : Int) = (rows.length : Int) - k + 1 := by rw [e2, List.length_cons, List.length_drop]; omega
  obtain ⟨p1, p2⟩ := ad_plain (z := z) R hc hn hl hkl (fun r hr => I2.ls r (by rw [hk, Int.toNat_natCast]; exact hr)) (fun q => by have := h2 (by omega); rw [hk, Int.toNat_natCast] at this; exact this)
  refine aft_fin (B := ⟨ρ1, hoS g a c, w, roNm g a c, 4⟩) (sp := []) (lim := 10) (fuel := 400) I2.g (fun q hq => by cases hq) rfl (.exit 0) ri_end ⟨?_, ?_, ?_, ?_, ?_, ?_, ?_, trivial⟩ M1
  · intro _
    unfold riM1
    rw [t_le]
    show (0 : Int) ≤ (den ρ1 (.tb .len (.cv 0) (.il 0) (.il 0))).i - ρ1.i 0
    omega
  · intro _
    unfold riM2
    rw [t_le]
    show ρ1.i 0 + ((den ρ1 (.tb .len (.cv 0) (.il 0) (.il 0))).i - ρ1.i 0) ≤ (den ρ1 (.tb .len (.cv 0) (.il 0) (.il 0))).i
    omega
  · intro _
    unfold riM3
    rw [t_le]
    show (((den ρ1 riCt).c.length : Int) + 1) * 24 ≤ 140737488355328
    omega
  · intro _
    unfold riM4
    rw [t_le]
    show (0 : Int) ≤ ((den ρ1 riCt).c.length : Int) + 1
    omega
  · intro _
    unfold riM5
    rw [t_le]
    show ((den ρ1 riCt).c.length : Int) + 1 ≤ ((den ρ1 (.tb .len (.cv 0) (.il 0) (.il 0))).i - ρ1.i 0) + 1
    omega
  · intro _
    unfold riM6
    rw [t_le]
    show (ρ1.i 0 + ((den ρ1 riT2).c.length : Int)) * 24 ≤ 140737488355328
    omega
  · intro _ β4 w4 hH
    refine ⟨?_, ?_⟩
    · show Value.int .i64 0 = _
      rw [p1]
    · rw [p2]
      refine ho_leaf hH (l := 98) (n := .add (.iv 0) (tlen riT2)) (t := riTn) (List.mem_cons_of_mem _ (List.mem_cons_self ..)) (List.mem_cons_self ..) (by decide) ?_ ?_
      · show ρ1.i 0 + ((den ρ1 riT2).c.length : Int) = _
        rw [e2l, hk, List.length_append, List.length_take, List.length_cons, List.length_drop]
        omega
      · show ((ρ1.c 0).drop 0).take ((ρ1.i 0).toNat - 0) ++ (den ρ1 riT2).c = _
        rw [e2, I2.c0, hk, Int.toNat_natCast, List.drop_zero, Nat.sub_zero]
set_option maxRecDepth 100000 in
theorem radd_calls (h : Hold 93 171 rLv w g a c rows) (R : RtOk rows) (x0 : 0 ≤ x) (x1 : x ≤ 4294967295) (y0 : -9223372036854775808 ≤ y) (y1 : y ≤ 9223372036854775807) (z0 : -9223372036854775808 ≤ z) (z1 : z ≤ 9223372036854775807) : Calls Try.prog 53 #[ptv g, pfV x y, .int .i64 z] w (RetP (RiPost w g a c rows x y z)) := by
  have l64 := R.l64
  have hM0 := ho_init (x := x) (y := y) (z := z) (nx := 50) h (cx := ⟨[lnB, u32B 20, i64B 21, i64B 24], []⟩) (cxP ⟨(show (0 : Int) ≤ (rows.length : Int) ∧ (rows.length : Int) ≤ 64 by omega), ⟨x0, x1⟩, ⟨y0, y1⟩, ⟨z0, z1⟩, trivial⟩ trivial)
  have hix : (den (roE rows x y z) (.ap 7 (.cv 0) (.iv 20) (.iv 21))).i = ixOf (isP x y) rows := rfl
  have hln : (den (roE rows x y z) (.tb .len (.cv 0) (.il 0) (.il 0))).i = (rows.length : Int) := rfl
  have hbd := rIx_bd (isP x y) rows
  have same : ∀ {s : Sy.St} {β : Bn} {ac : Act} {w2 : World}, s.hp = riHp → Md (roE rows x y z) (hoS g a c) w (roNm g a c) 4 s β ac w2 → HoldGo 93 171 rLv w w2 g a c rows := fun {s β ac w2} hs M => ho_leaf (hp := s.hp) ⟨M.hp, M.ne, M.may, M.only, M.old⟩ (l := 40) (n := tlen (.cv 0)) (t := .cv 0) (by rw [hs]; exact List.mem_cons_of_mem _ (List.mem_cons_self ..)) (by rw [hs]; exact List.mem_cons_of_mem _ (List.mem_cons_of_mem _ (List.mem_cons_self ..))) (by decide) rfl rfl
  obtain ⟨hp0, hp1, hp2⟩ := ri_hp0
  have hret := ri_ret0
  simp only [Bool.and_eq_true] at hret
  obtain ⟨r0, r1, r2⟩ := hret
  refine calls_pre (B := ⟨roE rows x y z, hoS g a c, w, roNm g a c, 4⟩) (sp := [rcSp, raSp]) (p := riP) (xs := adA) (s := rdSt) (r := ri0 Try.prog Try.f53) (fun i => rfl) (ro_sp rfl) rfl Try.func53 rfl rfl ri_run0 hM0 ⟨?_, ?_, ?_, ?_, trivial⟩ rfl
  · intro hpc β ac w1 M
    have q := hpc.1
    rw [t_not, t_eq] at q
    change ¬ chkN x y = 0 at q
    have e : adC rows x y = chkN x y := by unfold adC; rw [if_pos q]
    refine ret_post (B := ⟨roE rows x y z, hoS g a c, w, roNm g a c, 4⟩) M (retsB_ok r0 rfl) ⟨?_, ?_⟩
    · show Value.int .i64 (chkN x y) = _
      rw [e]
    · rw [ad_code z (by rw [e]; exact q)]
      exact same hp0 M
  · intro hpc β ac w1 M
    obtain ⟨q1, q2, _⟩ := hpc
    rw [t_le, hix] at q1
    change (0 : Int) ≤ _ at q1
    rw [t_eq] at q2
    change chkN x y = 0 at q2
    have e : adC rows x y = 8 := by unfold adC; rw [if_neg (by omega), any_ix, decide_eq_true q1]; rfl
    refine ret_post (B := ⟨roE rows x y z, hoS g a c, w, roNm g a c, 4⟩) M (retsB_ok r1 rfl) ⟨?_, ?_⟩
    · show Value.int .i64 8 = _
      rw [e]
    · rw [ad_code z (by omega)]
      exact same hp1 M
  · intro hpc β ac w1 M
    obtain ⟨q0, q1, q2, _⟩ := hpc
    rw [t_lt, hln] at q0
    change (63 : Int) < _ at q0
    rw [t_not, t_le, hix] at q1
    change ¬ (0 : Int) ≤ _ at q1
    rw [t_eq] at q2
    change chkN x y = 0 at q2
    have e : adC rows x y = 9 := by
      unfold adC
      rw [if_neg (by omega), any_ix, decide_eq_false q1]
      simp only [Bool.false_eq_true, if_false]
      rw [if_pos q0]
    refine ret_post (B := ⟨roE rows x y z, hoS g a c, w, roNm g a c, 4⟩) M (retsB_ok r2 rfl) ⟨?_, ?_⟩
    · show Value.int .i64 9 = _
      rw [e]
    · rw [ad_code z (by omega)]
      exact same hp2 M
  · intro hpc β ac w1 M
    obtain ⟨q0, q1, q2, _⟩ := hpc
    rw [t_not, t_lt, hln] at q0
    change ¬ (63 : Int) < _ at q0
    rw [t_not, t_le, hix] at q1
    change ¬ (0 : Int) ≤ _ at q1
    rw [t_eq] at q2
    change chkN x y = 0 at q2
    obtain ⟨k0, k1, _⟩ := chk_0 q2
    show (Sy.sub riP (bodyOf Try.f53)).wp Try.prog (ctx Try.prog riP (bodyOf Try.f53) _) ac w1
    have I0 : ∀ u, RiI rows x y z { (roE rows x y z).sub β [.i 0 (.il 0)] with u := u } := fun u => ⟨fun i => rfl, rfl, Int.le_refl 0, (by show (0 : Int) ≤ (rows.length : Int); omega), rfl, rfl, rfl, fun r hr => (by cases hr)⟩
    obtain ⟨u, β2, M2⟩ := Sy.Md.enter (show Md (roE rows x y z) (hoS g a c) w (roNm g a c) 4 (lfAt (ri0 Try.prog Try.f53) 3) β ac w1 from M) ri_in (fun u => by rw [ri_cx]; exact (I0 u).cx (by omega) x0 x1 k0 k1 z0 z1)
    rw [ri_loop]
    refine loop_wp (r := ri1 Try.prog Try.f53) (sp := []) rfl ri_run1 (RiI rows x y z) (fun ρ => ((rows.length : Int) - ρ.i 0).toNat) (fun ρ I => I.g) (fun ρ I q hq => by cases hq) (fun ρ I => by rw [ri_cx]; exact I.cx (by omega) x0 x1 k0 k1 z0 z1) (fun ρ I => ?_) (I0 u) M2
    have i0 := I.i0
    have le := I.le
    obtain ⟨ga, gb, gv⟩ := gR_i I.c0
    obtain ⟨f1, f2, f4⟩ := ri_x
    have step : (den ρ (.lt (.iv 0) (.tb .len (.cv 0) (.il 0) (.il 0)))).b = true → lessB x y (rows.getD (ρ.i 0).toNat []) → ∀ (β : Bn) (u : Nat → Value), RiI rows x y z { ρ.sub β [.i 0 (.add (.iv 0) (.il 1))] with u := u } ∧ ((rows.length : Int) - ({ ρ.sub β [.i 0 (.add (.iv 0) (.il 1))] with u := u } : Env).i 0).toNat < ((rows.length : Int) - ρ.i 0).toNat := fun q hl β u => by
      rw [ltI_iff I.c0] at q
      have hk : (ρ.i 0).toNat < rows.length := by omega
      refine ⟨⟨I.g, I.c0, ?_, ?_, I.i20, I.i21, I.i24, fun r hr => ?_⟩, ?_⟩
      · show 0 ≤ ρ.i 0 + 1; omega
      · show ρ.i 0 + 1 ≤ _; omega
      · change r ∈ rows.take (ρ.i 0 + 1).toNat at hr
        rw [show (ρ.i 0 + 1).toNat = (ρ.i 0).toNat + 1 by omega, row_at hk] at hr
        rcases List.mem_append.1 hr with hr | hr
        · exact I.ls r hr
        · rw [List.mem_singleton.1 hr]; exact hl
      · show ((rows.length : Int) - (ρ.i 0 + 1)).toNat < _; omega
    have al : (den ρ (.lt (gR 0) (.iv 20))).b = true ↔ rAd (rows.getD (ρ.i 0).toNat []) < x := by
      rw [t_lt]
      show (den ρ (gR 0)).i < ρ.i 20 ↔ _
      rw [ga, I.i20]
    have ae : (den ρ (.eq (gR 0) (.iv 20))).b = true ↔ rAd (rows.getD (ρ.i 0).toNat []) = x := by
      rw [t_eq]
      show (den ρ (gR 0)).i = ρ.i 20 ↔ _
      rw [ga, I.i20]
    have bl : (den ρ (.lt (gR 1) (.iv 21))).b = true ↔ rBi (rows.getD (ρ.i 0).toNat []) < y := by
      rw [t_lt]
      show (den ρ (gR 1)).i < ρ.i 21 ↔ _
      rw [gb, I.i21]
    refine ⟨?_, ?_, ?_, ?_, ?_, trivial⟩
    · intro hpc β u
      obtain ⟨p1, p2, p3, p4, _⟩ := hpc
      exact step p4 (.inr ⟨ae.1 p2, bl.1 p1⟩) β u
    · intro hpc β3 a3 w3 M3
      obtain ⟨p1, p2, p3, p4, _⟩ := hpc
      rw [t_not, bl] at p1
      rw [t_not, al] at p3
      exact ri_fin R q2 (by omega) q0 x0 x1 z0 z1 I (fun _ => by unfold lessB; omega) f1 M3
    · intro hpc β3 a3 w3 M3
      obtain ⟨p2, p3, p4, _⟩ := hpc
      rw [t_not, ae] at p2
      rw [t_not, al] at p3
      exact ri_fin R q2 (by omega) q0 x0 x1 z0 z1 I (fun _ => by unfold lessB; omega) f2 M3
    · intro hpc β u
      obtain ⟨p3, p4, _⟩ := hpc
      exact step p4 (.inl (al.1 p3)) β u
    · intro hpc β3 a3 w3 M3
      have p4 := hpc.1
      rw [t_not, ltI_iff I.c0] at p4
      exact ri_fin R q2 (by omega) q0 x0 x1 z0 z1 I (fun q => absurd q p4) f4 M3
end
end Go.Proofs.Ytnjpoidpfcfbeaa
/- Routes: the calls of both sides in letters. -/
namespace Go.Proofs.Ytnjpoidpfcfbeaa
open Go.RowKit Sy
set_option linter.unusedVariables false
set_option linter.unusedSimpArgs false

/-- The program's table, as a thing. -/
def rtT : Thing where
  P := fun w g Fp c => ∃ F, Sub w (some (c.length : Int)) 0 0 (ptv g) F c ∧ RtOk c ∧ ∀ i, Fp i ↔ i ∈ F
  keep := fun ⟨F, h, hR, hF⟩ hk => ⟨F, h.keep fun i hi => hk i ((hF i).2 hi), hR, hF⟩
  lt := fun ⟨F, h, hR, hF⟩ i hi => h.lt i ((hF i).1 hi)
  root := fun ⟨F, h, hR, hF⟩ => (hF _).2 h.root_in
/-! New. -/
set_option maxRecDepth 100000 in
theorem nw_run : smR Try.prog Try.f51 4 (run Try.prog [] 10 400 4 (.code (bodyOf Try.f51)) (enterS Try.f51 [] ⟨[], [], ⟨[], []⟩, 4⟩)) = some [.ret (.one (.c (.ptr 4 0))) [⟨4, 165, [.nptr, .nptr, .bool (.bl false), .int .i64 (.il 0), .int .i64 (.il 0)], true, none, .no⟩] []] := by kernel_rfl
theorem nw_calls (w : World) : Calls Try.prog 51 #[] w (RetP fun v w' => ∃ g, v = ptv g ∧ w.heap.size ≤ g ∧ Sub w' (some 0) 0 0 (ptv g) [g] [] ∧ Below w.heap.size w w') := by
  have hM : Md (mkEnv0 [] [] [] []) (fun _ => False) w (fun _ => 0) 4 ⟨[], [], ⟨[], []⟩, 4⟩ (fun _ => 0) ⟨#[], []⟩ w := Sy.Md.start ⟨fun _ h => (by cases h), fun _ h => (by cases h)⟩
  refine calls_sm (B := ⟨mkEnv0 [] [] [] [], fun _ => False, w, fun _ => 0, 4⟩) (sp := []) (fun i => rfl) (fun q hq => by cases hq) 10 400 Try.func51 rfl [] ⟨[], [], ⟨[], []⟩, 4⟩ _ 4 rfl nw_run hM (R := fun v w' => ∃ g, v = ptv g ∧ w.heap.size ≤ g ∧ Sub w' (some 0) 0 0 (ptv g) [g] [] ∧ Below w.heap.size w w') ⟨?_, trivial⟩ rfl
  intro _ β w2 hH
  have h1 : Blk w2 (β 4) 165 [nilp, nilp, .bool false, .int .i64 0, .int .i64 0] := hH.hp _ (List.mem_cons_self ..)
  refine ⟨β 4, rfl, (hH.may0 _ (List.mem_cons_self ..) rfl (.inl rfl)).resolve_left (fun h => h), ?_, Sy.Only.below_all hH.only⟩
  have := Sub.node (o := some 0) (k := 0) (a := 0) (by decide) (show Blk w2 (β 4) (tyO (some 0)) (ndC nilp nilp false 0 (some 0)) from h1) (.nil 1 0) (.nil 1 (0 + wid 1)) (by simp) (by decide) (by decide)
  simpa [ownR] using this
theorem RtOk0 : RtOk [] := RtOk.nil
def nwSel (s : Sy.St) : List SV → Option Did
  | [] => some ⟨[], [], [], [ownB s.nx (s.nx + 1) 0 165 tn], .one (.c (.ptr s.nx 0)), [], none⟩
  | _ => none
def nwSp : Sy.Spec := chgSp 51 nwSel
theorem nwSp_ok {ρ : Env} (ho : ρ.o 0 = rtT) : nwSp.Ok Try.prog ρ := by
  refine chgSp_ok fun {s xs d} hs hc hm {β w} hb hne => ?_
  unfold nwSel at hs
  split at hs
  · injection hs with hs
    subst hs
    refine ⟨fun y hy => (by cases hy), (nw_calls w).mono ?_⟩
    rintro e w' ⟨v, rfl, g, rfl, hg, hP, hbl⟩
    have e0 : upd (upd β s.nx g) (s.nx + 1) (bitsOf [g]) s.nx = g := by rw [upd_old (by omega), upd_new]
    have e1 : upd (upd β s.nx g) (s.nx + 1) (bitsOf [g]) (s.nx + 1) = bitsOf [g] := upd_new ..
    refine ⟨upd (upd β s.nx g) (s.nx + 1) (bitsOf [g]), ?_, Only.of_below hbl _, fun l hl => by rw [upd_old (by omega), upd_old (by omega)], fun _ h => (by cases h), fun b hb' => ?_, fun _ h => (by cases h), fun b hb' hr i hi => ?_, fun x hx y hy hxy => ?_, fun _ _ b hb' => (by cases hb')⟩
    · show _ = Ending.returned (.pointer (some ⟨upd (upd β s.nx g) (s.nx + 1) (bitsOf [g]) s.nx, 0, none⟩))
      rw [e0]
    · rw [List.mem_singleton.1 hb']
      show (ρ.o 0).P w' (upd (upd β s.nx g) (s.nx + 1) (bitsOf [g]) s.nx) (fun i => (upd (upd β s.nx g) (s.nx + 1) (bitsOf [g]) (s.nx + 1)).testBit i = true) []
      rw [ho, e0, e1]
      exact ⟨[g], hP, RtOk0, fun i => bitsOf_test i _⟩
    · rw [List.mem_singleton.1 hb'] at hi
      refine .inr ?_
      rcases hi with hi | ⟨_, hi⟩
      · change i = upd (upd β s.nx g) (s.nx + 1) (bitsOf [g]) s.nx at hi
        rw [hi, e0]; exact hg
      · change (upd (upd β s.nx g) (s.nx + 1) (bitsOf [g]) (s.nx + 1)).testBit i = true at hi
        rw [e1, bitsOf_test, List.mem_singleton] at hi
        rw [hi]; exact hg
    · rw [List.mem_singleton.1 hx, List.mem_singleton.1 hy] at hxy
      exact absurd rfl hxy
  · cases hs
/-! The table's calls. -/
def pkT (n v : Tm) : Tm := .tb (.cons (.int .i64)) n (.tb (.cons (.int .i64)) v (.tb .row (.il 0) (.il 0) (.il 0)) (.il 0)) (.il 0)
def adT' (t x y z : Tm) : Tm := .ap 22 t x (pkT y z)
theorem adT_c {ρ : Env} (hf : ρ.f = rtF) (t x y z : Tm) (y0 : -9223372036854775808 ≤ (den ρ y).i) (y1 : (den ρ y).i ≤ 9223372036854775807) (z0 : -9223372036854775808 ≤ (den ρ z).i) (z1 : (den ρ z).i ≤ 9223372036854775807) : (den ρ (adT' t x y z)).c = adR (den ρ t).c (den ρ x).i (den ρ y).i (den ρ z).i := by
  show (ρ.f 22 (den ρ t) (den ρ x) (den ρ (pkT y z))).c = _
  rw [hf]
  show adR (den ρ t).c (den ρ x).i (gI .i64 [.int .i64 (den ρ y).i, .int .i64 (den ρ z).i] 0) (gI .i64 [.int .i64 (den ρ y).i, .int .i64 (den ρ z).i] 1) = _
  have e1 : gI .i64 [Value.int .i64 (den ρ y).i, .int .i64 (den ρ z).i] 0 = (den ρ y).i := gI_lit (k := .i64) rfl y0 y1
  have e2 : gI .i64 [Value.int .i64 (den ρ y).i, .int .i64 (den ρ z).i] 1 = (den ρ z).i := gI_lit (k := .i64) rfl z0 z1
  rw [e1, e2]
theorem tab_chg {ρ : Env} (ho : ρ.o 0 = rtT) {β : Bn} {w w' : World} {s : Sy.St} {l fl : Nat} {ty : TypeId} {t t' : Tm} (hlx : l + 1 < s.nx) (hd : ownB l fl 0 ty t ∈ s.hp) {F : List Nat} (hF : ∀ i, (β fl).testBit i = true ↔ i ∈ F) {C' : Rws} (hG : TabGo w w' (β l) F C') (hR : RtOk C') (ht : (den ρ t').c = C') :
    ∃ β', Chg ρ β β' w w' s [] [] [] (some (ownB l s.nx 0 ty t')) := by
  obtain ⟨F', h1, h2, h3⟩ := hG
  exact ⟨_, own_chg hlx (Nat.le_refl _) hd hF (F' := F') (by rw [ho, ht]; exact ⟨F', h1, hR, fun i => Iff.rfl⟩) h2 h3⟩
def adSel (s : Sy.St) : List SV → Option Did
  | [.one (.c (.ptr l 0)), .one (.agg [.int .u32 x, .int .i64 y]), .one (.c (.int .i64 z))] => match ownG s l with
    | some (ty, fl, 0, t) => some ⟨inU s.cx x ++ (inI s.cx y ++ inI s.cx z), [], [], [], .one (.c (.int .i64 (.ap 21 t x y))), [], some (ownB l s.nx 0 ty (adT' t x y z))⟩
    | _ => none
  | _ => none
def adSp : Sy.Spec := chgSp 52 adSel
theorem own_rt {ρ : Env} (ho : ρ.o 0 = rtT) {β : Bn} {w : World} {s : Sy.St} (hb : ∀ b ∈ s.hp, BkOk ρ β w b) {l fl : Nat} {ty : TypeId} {rw : Bool} {t : Tm} (h : ownBr l fl 0 ty rw t ∈ s.hp) : ∃ F, Sub w (some ((den ρ t).c.length : Int)) 0 0 (ptv (β l)) F (den ρ t).c ∧ RtOk (den ρ t).c ∧ ∀ i, (β fl).testBit i = true ↔ i ∈ F := by
  have hB : (ρ.o 0).P w (β l) (fun i => (β fl).testBit i = true) (den ρ t).c := hb _ h
  rw [ho] at hB
  exact hB
theorem adSp_ok {ρ : Env} (hf : ρ.f = rtF) (ho : ρ.o 0 = rtT) : adSp.Ok Try.prog ρ := by
  refine chgSp_ok fun {s xs d} hs hc hm {β w} hb hne => ?_
  unfold adSel at hs
  split at hs
  · rename_i l x y z
    split at hs
    · rename_i ty fl t hfo
      injection hs with hs
      subst hs
      obtain ⟨hd, hlx⟩ := ownG_ok hfo
      obtain ⟨F, hS, hR, hF⟩ := own_rt ho hb (rw := true) hd
      obtain ⟨x0, x1⟩ := inU_ok hc hm.l
      obtain ⟨y0, y1⟩ := inI_ok hc hm.r.l
      obtain ⟨z0, z1⟩ := inI_ok hc hm.r.r
      refine ⟨fun y hy => (by cases hy), (add_calls hS hR.l64 x0 x1 y0 y1 z0 z1).mono ?_⟩
      rintro e' w' ⟨v, rfl, rfl, hG⟩
      obtain ⟨β', hC⟩ := tab_chg (t' := adT' t x y z) ho hlx hd hF hG (adR_ok hR x0 x1 z0 z1) (adT_c hf t x y z y0 y1 z0 z1)
      refine ⟨β', ?_, hC⟩
      show _ = Ending.returned (.int .i64 (ρ.f 21 (den ρ t) (den ρ x) (den ρ y)).i)
      rw [hf]
      rfl
    · cases hs
  · cases hs
def drSel (s : Sy.St) : List SV → Option Did
  | [.one (.c (.ptr l 0)), .one (.agg [.int .u32 x, .int .i64 y])] => match ownG s l with
    | some (ty, fl, 0, t) => some ⟨inU s.cx x ++ inI s.cx y, [], [], [], .one (.c (.int .i64 (.ap 23 t x y))), [], some (ownB l s.nx 0 ty (.ap 24 t x y))⟩
    | _ => none
  | _ => none
def drSp : Sy.Spec := chgSp 54 drSel
theorem drSp_ok {ρ : Env} (hf : ρ.f = rtF) (ho : ρ.o 0 = rtT) : drSp.Ok Try.prog ρ := by
  refine chgSp_ok fun {s xs d} hs hc hm {β w} hb hne => ?_
  unfold drSel at hs
  split at hs
  · rename_i l x y
    split at hs
    · rename_i ty fl t hfo
      injection hs with hs
      subst hs
      obtain ⟨hd, hlx⟩ := ownG_ok hfo
      obtain ⟨F, hS, hR, hF⟩ := own_rt ho hb (rw := true) hd
      obtain ⟨x0, x1⟩ := inU_ok hc hm.l
      obtain ⟨y0, y1⟩ := inI_ok hc hm.r
      refine ⟨fun y hy => (by cases hy), (drop_calls hS hR.l64 x0 x1 y0 y1).mono ?_⟩
      rintro e' w' ⟨v, rfl, rfl, hG⟩
      obtain ⟨β', hC⟩ := tab_chg (t' := .ap 24 t x y) ho hlx hd hF hG (drR_ok hR _ _) (show (ρ.f 24 (den ρ t) (den ρ x) (den ρ y)).c = _ by rw [hf]; rfl)
      refine ⟨β', ?_, hC⟩
      show _ = Ending.returned (.int .i64 (ρ.f 23 (den ρ t) (den ρ x) (den ρ y)).i)
      rw [hf]
      rfl
    · cases hs
  · cases hs
def alV (nx : Nat) (t : Tm) : SV := .one (.c (.slt nx 2 (.il 0) (tlen (apT t)) (.il 0)))
def alSel (s : Sy.St) : List SV → Option Did
  | [.one (.c (.ptr l 0))] => match ownGr s l with
    | some (ty, fl, 0, _, t) => some ⟨[], [], [], [hoN 29 xLv s.nx (apT t)], alV s.nx t, [⟨tlen (apT t), 0, 64⟩], none⟩
    | _ => none
  | _ => none
def alSp : Sy.Spec := chgSp 57 alSel
theorem apT_c {ρ : Env} (hf : ρ.f = rtF) (t : Tm) : (den ρ (apT t)).c = alR (den ρ t).c := by
  show (ρ.f 25 _ _ _).c = _
  rw [hf]; rfl
theorem alSp_ok {ρ : Env} (hf : ρ.f = rtF) (ho : ρ.o 0 = rtT) : alSp.Ok Try.prog ρ := by
  refine chgSp_ok fun {s xs d} hs hc hm {β w} hb hne => ?_
  unfold alSel at hs
  split at hs
  · rename_i l
    split at hs
    · rename_i ty fl rw t hfo
      injection hs with hs
      subst hs
      obtain ⟨hd, hlx⟩ := ownGr_ok hfo
      obtain ⟨F, hS, hR, hF⟩ := own_rt ho hb hd
      have hl := hR.l64
      refine ⟨fun y hy => ?_, (al_calls hS hR.l64).mono ?_⟩
      · rw [List.mem_singleton.1 hy]
        show (0 : Int) ≤ ((den ρ (apT t)).c.length : Int) ∧ ((den ρ (apT t)).c.length : Int) ≤ 64
        rw [apT_c hf, alR_len]
        omega
      · rintro e' w' ⟨v, rfl, hN⟩
        obtain ⟨β', h1, h2⟩ := new_chg (ρ := ρ) (β := β) (s := s) (t' := apT t) hN (apT_c hf t)
        exact ⟨β', by rw [h1]; rfl, h2⟩
    · cases hs
  · cases hs
def fiV'' (t x : Tm) : SV := .tup [.c (.int .i64 (.ap 26 t x (.il 0))), .agg [.int .u32 (.ap 27 t x (.il 0)), .int .i64 (.ap 28 t x (.il 0))], .c (.bool (.ap 29 t x (.il 0)))]
theorem fiV_den {ρ : Env} (hf : ρ.f = rtF) (β : Bn) (t x : Tm) : (fiV'' t x).den ρ β = .tuple #[.int .i64 (fiV (fiO (den ρ x).i (den ρ t).c)), pfV (fiA (fiO (den ρ x).i (den ρ t).c)) (fiN (fiO (den ρ x).i (den ρ t).c)), .bool (fiO (den ρ x).i (den ρ t).c).isSome] := by
  show Value.tuple #[.int .i64 (ρ.f 26 (den ρ t) (den ρ x) _).i, .agg #[.int .u32 (ρ.f 27 (den ρ t) (den ρ x) _).i, .int .i64 (ρ.f 28 (den ρ t) (den ρ x) _).i], .bool (ρ.f 29 (den ρ t) (den ρ x) _).b] = _
  rw [hf]
  rfl
def ffSel (s : Sy.St) : List SV → Option Did
  | [.one (.c (.ptr l 0)), .one (.c (.int .u32 x))] => match ownGr s l with
    | some (ty, fl, 0, _, t) => some ⟨inU s.cx x, [], [], [], fiV'' t x, [], none⟩
    | _ => none
  | _ => none
def ffSp : Sy.Spec := chgSp 59 ffSel
theorem no_chg {ρ : Env} {β : Bn} {w w' : World} {s : Sy.St} (hb : Below w.heap.size w w') : Chg ρ β β w w' s [] [] [] none := ⟨Only.of_below hb _, fun _ _ => rfl, fun _ h => (by cases h), fun _ h => (by cases h), fun _ h => (by cases h), fun _ h => (by cases h), fun _ h => (by cases h), fun _ h => (by cases h)⟩
theorem ffSp_ok {ρ : Env} (hf : ρ.f = rtF) (ho : ρ.o 0 = rtT) : ffSp.Ok Try.prog ρ := by
  refine chgSp_ok fun {s xs d} hs hc hm {β w} hb hne => ?_
  unfold ffSel at hs
  split at hs
  · rename_i l x
    split at hs
    · rename_i ty fl rw t hfo
      injection hs with hs
      subst hs
      obtain ⟨hd, hlx⟩ := ownGr_ok hfo
      obtain ⟨F, hS, hR, hF⟩ := own_rt ho hb hd
      obtain ⟨x0, x1⟩ := inU_ok hc hm
      refine ⟨fun y hy => (by cases hy), (find_calls hS hR.l64 x0 x1).mono ?_⟩
      rintro e' w' ⟨v, rfl, rfl, hb'⟩
      exact ⟨β, by rw [fiV_den hf], no_chg hb'⟩
    · cases hs
  · cases hs
/-! The reference's. -/
def riSel (s : Sy.St) : List SV → Option Did
  | [.one (.c (.ptr l 0)), .one (.agg [.int .u32 x, .int .i64 y]), .one (.c (.int .i64 z))] => match hoF 93 171 rLv s l with
    | some (rw, ms, lt, .cv 0) => some ⟨ms ++ (inU s.cx x ++ (inI s.cx y ++ inI s.cx z)), [lt], [hoO 93 3 l rw s.nx (adT' (.cv 0) x y z)], [hoN 171 rLv s.nx (adT' (.cv 0) x y z)], .one (.c (.int .i64 (.ap 21 (.cv 0) x y))), [⟨tlen (adT' (.cv 0) x y z), 0, 64⟩], none⟩
    | _ => none
  | _ => none
def riSp : Sy.Spec := chgSp 53 riSel
theorem riSp_ok {ρ : Env} (hf : ρ.f = rtF) (hR : RtOk (ρ.c 0)) : riSp.Ok Try.prog ρ := by
  refine chgSp_ok fun {s xs d} hs hc hm {β w} hb hne => ?_
  unfold riSel at hs
  split at hs
  · rename_i l x y z
    split at hs
    · rename_i rw ms lt hfh
      injection hs with hs
      subst hs
      obtain ⟨hH, l1, l2, l3, hdt, hdl⟩ := hoF_ok hfh hc hm.l hb hne
      obtain ⟨x0, x1⟩ := inU_ok hc hm.r.l
      obtain ⟨y0, y1⟩ := inI_ok hc hm.r.r.l
      obtain ⟨z0, z1⟩ := inI_ok hc hm.r.r.r
      have hc' := adT_c hf (.cv 0) x y z y0 y1 z0 z1
      have hR' := adR_ok (n := (den ρ y).i) hR x0 x1 z0 z1
      refine ⟨fun q hq => ?_, (radd_calls hH hR x0 x1 y0 y1 z0 z1).mono ?_⟩
      · rw [List.mem_singleton.1 hq]
        show (0 : Int) ≤ ((den ρ (adT' (.cv 0) x y z)).c.length : Int) ∧ ((den ρ (adT' (.cv 0) x y z)).c.length : Int) ≤ 64
        rw [hc']
        have : (adR (den ρ (.cv 0)).c (den ρ x).i (den ρ y).i (den ρ z).i).length ≤ 64 := hR'.l64
        omega
      · rintro e' w' ⟨v, rfl, rfl, hG⟩
        obtain ⟨β', hC⟩ := hold_chg (rw := rw) (t' := adT' (.cv 0) x y z) l1 l2 hdt hG hc'
        refine ⟨β', ?_, hC⟩
        show _ = Ending.returned (.int .i64 (ρ.f 21 (dC (ρ.c 0)) (den ρ x) (den ρ y)).i)
        rw [hf]
        rfl
    · cases hs
  · cases hs
def rdSel (s : Sy.St) : List SV → Option Did
  | [.one (.c (.ptr l 0)), .one (.agg [.int .u32 x, .int .i64 y])] => match hoF 93 171 rLv s l with
    | some (rw, ms, lt, .cv 0) => some ⟨ms ++ (inU s.cx x ++ inI s.cx y), [lt], [hoO 93 3 l rw s.nx (.ap 24 (.cv 0) x y)], [hoN 171 rLv s.nx (.ap 24 (.cv 0) x y)], .one (.c (.int .i64 (.ap 23 (.cv 0) x y))), [⟨tlen (.ap 24 (.cv 0) x y), 0, 64⟩], none⟩
    | _ => none
  | _ => none
def rdSp : Sy.Spec := chgSp 55 rdSel
theorem rdSp_ok {ρ : Env} (hf : ρ.f = rtF) (hR : RtOk (ρ.c 0)) : rdSp.Ok Try.prog ρ := by
  refine chgSp_ok fun {s xs d} hs hc hm {β w} hb hne => ?_
  unfold rdSel at hs
  split at hs
  · rename_i l x y
    split at hs
    · rename_i rw ms lt hfh
      injection hs with hs
      subst hs
      obtain ⟨hH, l1, l2, l3, hdt, hdl⟩ := hoF_ok hfh hc hm.l hb hne
      obtain ⟨x0, x1⟩ := inU_ok hc hm.r.l
      obtain ⟨y0, y1⟩ := inI_ok hc hm.r.r
      have hc' : (den ρ (.ap 24 (.cv 0) x y)).c = drR (ρ.c 0) (den ρ x).i (den ρ y).i := by
        show (ρ.f 24 _ _ _).c = _
        rw [hf]; rfl
      have hR' := drR_ok hR (den ρ x).i (den ρ y).i
      refine ⟨fun q hq => ?_, (rdrop_calls hH hR x0 x1 y0 y1).mono ?_⟩
      · rw [List.mem_singleton.1 hq]
        show (0 : Int) ≤ ((den ρ (.ap 24 (.cv 0) x y)).c.length : Int) ∧ ((den ρ (.ap 24 (.cv 0) x y)).c.length : Int) ≤ 64
        rw [hc']
        have := hR'.l64
        omega
      · rintro e' w' ⟨v, rfl, rfl, hG⟩
        obtain ⟨β', hC⟩ := hold_chg (rw := rw) (t' := .ap 24 (.cv 0) x y) l1 l2 hdt hG hc'
        refine ⟨β', ?_, hC⟩
        show _ = Ending.returned (.int .i64 (ρ.f 23 (dC (ρ.c 0)) (den ρ x) (den ρ y)).i)
        rw [hf]
        rfl
    · cases hs
  · cases hs
def rlSel (s : Sy.St) : List SV → Option Did
  | [.one (.c (.ptr l 0))] => match hoF 93 171 rLv s l with
    | some (rw, ms, lt, t) => some ⟨ms ++ need s.cx (.le (mkTL s.cx t) (.il 64)), [], [], [hoN 29 xLv s.nx (apT t)], alV s.nx t, [⟨tlen (apT t), 0, 64⟩], none⟩
    | _ => none
  | _ => none
def rlSp : Sy.Spec := chgSp 58 rlSel
theorem rlSp_ok {ρ : Env} (hf : ρ.f = rtF) : rlSp.Ok Try.prog ρ := by
  refine chgSp_ok fun {s xs d} hs hc hm {β w} hb hne => ?_
  unfold rlSel at hs
  split at hs
  · rename_i l
    split at hs
    · rename_i rw ms lt t hfh
      injection hs with hs
      subst hs
      obtain ⟨hH, _⟩ := hoF_ok hfh hc hm.l hb hne
      have m3 := le_of (need_ok hc hm.r)
      rw [mkTL_ok hc] at m3
      change ((den ρ t).c.length : Int) ≤ 64 at m3
      refine ⟨fun y hy => ?_, (rall_calls hH (by omega)).mono ?_⟩
      · rw [List.mem_singleton.1 hy]
        show (0 : Int) ≤ ((den ρ (apT t)).c.length : Int) ∧ ((den ρ (apT t)).c.length : Int) ≤ 64
        rw [apT_c hf, alR_len]
        omega
      · rintro e' w' ⟨v, rfl, hN⟩
        obtain ⟨β', h1, h2⟩ := new_chg (ρ := ρ) (β := β) (s := s) (t' := apT t) hN (apT_c hf t)
        exact ⟨β', by rw [h1]; rfl, h2⟩
    · cases hs
  · cases hs
def rfSel (s : Sy.St) : List SV → Option Did
  | [.one (.c (.ptr l 0)), .one (.c (.int .u32 x))] => match hoF 93 171 rLv s l with
    | some (rw, ms, lt, t) => some ⟨ms ++ (need s.cx (.le (mkTL s.cx t) (.il 64)) ++ inU s.cx x), [], [], [], fiV'' t x, [], none⟩
    | _ => none
  | _ => none
def rfSp : Sy.Spec := chgSp 60 rfSel
theorem rfSp_ok {ρ : Env} (hf : ρ.f = rtF) : rfSp.Ok Try.prog ρ := by
  refine chgSp_ok fun {s xs d} hs hc hm {β w} hb hne => ?_
  unfold rfSel at hs
  split at hs
  · rename_i l x
    split at hs
    · rename_i rw ms lt t hfh
      injection hs with hs
      subst hs
      obtain ⟨hH, _⟩ := hoF_ok hfh hc hm.l hb hne
      have m3 := le_of (need_ok hc hm.r.l)
      rw [mkTL_ok hc] at m3
      change ((den ρ t).c.length : Int) ≤ 64 at m3
      obtain ⟨x0, x1⟩ := inU_ok hc hm.r.r
      refine ⟨fun y hy => (by cases hy), (rfind_calls hH (by omega) x0 x1).mono ?_⟩
      rintro e' w' ⟨v, rfl, rfl, hb'⟩
      exact ⟨β, by rw [fiV_den hf], no_chg hb'⟩
    · cases hs
  · cases hs
end Go.Proofs.Ytnjpoidpfcfbeaa
