/- Pick: what both share. -/
import Derived.Test.YthjigajielhkfaaPp
namespace Go.Proofs.Ythjigajielhkfaa
open Go.RowKit Sy
set_option linter.unusedVariables false
set_option linter.unusedSimpArgs false

/-- The bound with another port. -/
def rwP (p : Tm) : Tm := .tb (.cons (.int .i64)) (.iv 20) (.tb (.cons (.int .u32)) (.iv 21) (.tb (.cons (.int .i64)) p (.tb (.cons (.int .u32)) (.iv 23) (.tb (.cons (.int .i64)) (.iv 24) (.tb (.cons .bool) (.bv 25) (.tb (.cons (.int .i64)) (.iv 26) trow (.il 0)) (.il 0)) (.il 0)) (.il 0)) (.il 0)) (.il 0)) (.il 0)
def pkEnv (rows : List (List Value)) (b : List Value) (sd : Int) : Env := { bdEnv plH rows b with i := fun n => if n = 27 then sd else if n = 2 then sd % 64 else (bdEnv plH rows b).i n }
structure PkI (rows : List (List Value)) (b : List Value) (sd : Int) (ρ : Env) : Prop where
  g : ρ.good
  i : ∀ n, 20 ≤ n → ρ.i n = (pkEnv rows b sd).i n
  hb : ρ.b = (pkEnv rows b sd).b
  c : ρ.c = (pkEnv rows b sd).c
  f : ρ.f = plH
  i2 : ρ.i 2 = sd % 64
  j0 : 0 ≤ ρ.i 0
  j1 : ρ.i 0 ≤ 64
  no : ∀ j, j < (ρ.i 0).toNat → (rows.any fun a => clF a (setP b (place sd j))) = true
theorem pk_start (rows : List (List Value)) (b : List Value) (sd : Int) : PkI rows b sd (pkEnv rows b sd) := ⟨fun i => rfl, fun n _ => rfl, rfl, rfl, rfl, rfl, Int.le_refl 0, by show (0 : Int) ≤ 64; omega, fun j hj => absurd hj (Nat.not_lt_zero j)⟩
section
variable {rows : List (List Value)} {b : List Value} {sd : Int} {ρ : Env}
theorem setP_eq (hk : kAll bdLv b) (q : Int) : setP b q = [.int .i64 (gI .i64 b 0), .int .u32 (gI .u32 b 1), .int .i64 q, .int .u32 (gI .u32 b 3), .int .i64 (gI .i64 b 4), .bool (gB b 5), .int .i64 (gI .i64 b 6)] := by
  unfold setP
  conv => lhs; rw [bd_cells hk]
  rfl
theorem PkI.row (I : PkI rows b sd ρ) (hk : kAll bdLv b) {p : Tm} {q : Int} (hp : (den ρ p).i = q) : (den ρ (rwP p)).c = [setP b q] := by
  show [[Value.int .i64 (ρ.i 20), .int .u32 (ρ.i 21), .int .i64 (den ρ p).i, .int .u32 (ρ.i 23), .int .i64 (ρ.i 24), .bool (ρ.b 25), .int .i64 (ρ.i 26)]] = _
  rw [I.i 20 (by decide), I.i 21 (by decide), I.i 23 (by decide), I.i 24 (by decide), I.i 26 (by decide), I.hb, hp, setP_eq hk]
  rfl
theorem PkI.h52 (I : PkI rows b sd ρ) (hk : kAll bdLv b) {p : Tm} {q : Int} (hp : (den ρ p).i = q) : (den ρ (.ap 52 (rwP p) (.il 0) (.il 0))).i = chkE (setP b q) := by
  show (ρ.f 52 _ _ _).i = _
  rw [I.f]
  show chkE ((den ρ (rwP p)).c.headD []) = _
  rw [I.row hk hp]
  rfl
theorem PkI.h40 (I : PkI rows b sd ρ) (hk : kAll bdLv b) {p : Tm} {q : Int} (hp : (den ρ p).i = q) : (den ρ (.ap 40 (.cv 0) (rwP p) (.il 0))).b = rows.any fun a => clF a (setP b q) := by
  show (ρ.f 40 _ _ _).b = _
  rw [I.f]
  show ((ρ.c 0).any fun a => clF a ((den ρ (rwP p)).c.headD [])) = _
  rw [I.row hk hp, I.c]
  rfl
theorem PkI.h51 (I : PkI rows b sd ρ) (hk : kAll bdLv b) {p : Tm} {q : Int} (hp : (den ρ p).i = q) : (den ρ (.ap 51 (.cv 0) (rwP p) (.il 0))).i = bindE rows (setP b q) := by
  show (ρ.f 51 _ _ _).i = _
  rw [I.f]
  show bindE (ρ.c 0) ((den ρ (rwP p)).c.headD []) = _
  rw [I.row hk hp, I.c]
  rfl
theorem PkI.h50 (I : PkI rows b sd ρ) (hk : kAll bdLv b) {p : Tm} {q : Int} (hp : (den ρ p).i = q) : (den ρ (.ap 50 (.cv 0) (rwP p) (.il 0))).c = bindR rows (setP b q) := by
  show (ρ.f 50 _ _ _).c = _
  rw [I.f]
  show bindR (ρ.c 0) ((den ρ (rwP p)).c.headD []) = _
  rw [I.row hk hp, I.c]
  rfl
theorem tmod_mod (s k : Int) : (Int.tmod s 64 + k) % 64 = (s + k) % 64 := by
  have h := Int.mul_tdiv_add_tmod s 64
  generalize Int.tdiv s 64 = q at h
  omega
def pkP1 : Tm := .add (.md (.add (.iv 2) (.iv 0)) (.il 64)) (.il 49152)
def pkP2 : Tm := .add (.md (.add (.add (.rem (.iv 27) (.il 64)) (.iv 0)) (.il 64)) (.il 64)) (.il 49152)
def pkP3 : Tm := .add (.md (.add (.rem (.iv 27) (.il 64)) (.iv 0)) (.il 64)) (.il 49152)
theorem PkI.p1 (I : PkI rows b sd ρ) : (den ρ pkP1).i = place sd (ρ.i 0).toNat := by
  show ((ρ.i 2 + ρ.i 0) % 64 + 49152 : Int) = _
  have := I.i2
  have := I.j0
  unfold place
  omega
theorem PkI.p2 (I : PkI rows b sd ρ) : (den ρ pkP2).i = place sd (ρ.i 0).toNat := by
  show ((Int.tmod (ρ.i 27) 64 + ρ.i 0 + 64) % 64 + 49152 : Int) = _
  have h27 : ρ.i 27 = sd := I.i 27 (by decide)
  have := I.j0
  have h := tmod_mod sd (ρ.i 0)
  rw [h27]
  unfold place
  omega
theorem PkI.p3 (I : PkI rows b sd ρ) : (den ρ pkP3).i = place sd (ρ.i 0).toNat := by
  show ((Int.tmod (ρ.i 27) 64 + ρ.i 0) % 64 + 49152 : Int) = _
  have h27 : ρ.i 27 = sd := I.i 27 (by decide)
  have := I.j0
  have h := tmod_mod sd (ρ.i 0)
  rw [h27]
  unfold place
  omega
/-- The first place that is free. -/
theorem PkI.found (I : PkI rows b sd ρ) (hlt : ρ.i 0 < 64) (h : (rows.any fun a => clF a (setP b (place sd (ρ.i 0).toNat))) = false) : pickI rows b sd = some (ρ.i 0).toNat := by
  have := I.j0
  refine List.find?_range_eq_some.2 ⟨by rw [h]; rfl, List.mem_range.2 (by omega), fun j hj => ?_⟩
  rw [I.no j hj]
  rfl
theorem PkI.full (I : PkI rows b sd ρ) (hge : ¬ ρ.i 0 < 64) : pickI rows b sd = none := by
  refine List.find?_eq_none.2 fun j hj => ?_
  have := List.mem_range.1 hj
  rw [I.no j (by omega)]
  decide
theorem PkI.next (I : PkI rows b sd ρ) (hlt : ρ.i 0 < 64) (h : (rows.any fun a => clF a (setP b (place sd (ρ.i 0).toNat))) = true) (β : Bn) (p : Tm) (u : Nat → Value) : PkI rows b sd { ρ.sub β [(.i 0 (.add (.iv 0) (.il 1))), (.i 1 p)] with u := u } ∧ 64 - (({ ρ.sub β [(.i 0 (.add (.iv 0) (.il 1))), (.i 1 p)] with u := u } : Env).i 0).toNat < 64 - (ρ.i 0).toNat := by
  have j0 := I.j0
  have e0 : ({ ρ.sub β [(.i 0 (.add (.iv 0) (.il 1))), (.i 1 p)] with u := u } : Env).i 0 = ρ.i 0 + 1 := rfl
  refine ⟨⟨I.g, fun n hn => ?_, I.hb, I.c, I.f, I.i2, ?_, ?_, ?_⟩, ?_⟩
  · rcases n with _ | _ | n
    · exact absurd hn (by decide)
    · exact absurd hn (by decide)
    · exact I.i (n + 2) hn
  · rw [e0]; omega
  · rw [e0]; omega
  · rw [e0]
    intro j hj
    by_cases e : j = (ρ.i 0).toNat
    · rw [e]; exact h
    · exact I.no j (by omega)
  · rw [e0]; omega
def pkCx : Cx := ⟨⟨.iv 0, 0, 64⟩ :: ⟨.iv 2, 0, 63⟩ :: i64B 27 :: tbBs, []⟩
theorem PkI.bs (I : PkI rows b sd ρ) (hn : rows.length ≤ 32) (hs : IntKind.i64.wrap sd = sd) : Bds ρ (i64B 27 :: tbBs) := by
  intro x hx
  change x ∈ [_, _, _, _, _, _, _, _] at hx
  simp only [List.mem_cons, List.not_mem_nil, or_false] at hx
  rcases hx with rfl | rfl | rfl | rfl | rfl | rfl | rfl | rfl
  · show _ ≤ ρ.i 27 ∧ ρ.i 27 ≤ _
    rw [I.i 27 (by decide)]
    show _ ≤ sd ∧ sd ≤ _
    rw [← hs]
    exact wrap_bd .i64 sd
  · show (0 : Int) ≤ (((ρ.c 0).length : Nat) : Int) ∧ (((ρ.c 0).length : Nat) : Int) ≤ 32
    rw [I.c]
    show (0 : Int) ≤ ((rows.length : Nat) : Int) ∧ ((rows.length : Nat) : Int) ≤ 32
    omega
  · show _ ≤ ρ.i 20 ∧ ρ.i 20 ≤ _
    rw [I.i 20 (by decide)]
    exact gI_bd (k := .i64) b 0
  · show _ ≤ ρ.i 21 ∧ ρ.i 21 ≤ _
    rw [I.i 21 (by decide)]
    exact gI_bd (k := .u32) b 1
  · show _ ≤ ρ.i 22 ∧ ρ.i 22 ≤ _
    rw [I.i 22 (by decide)]
    exact gI_bd (k := .i64) b 2
  · show _ ≤ ρ.i 23 ∧ ρ.i 23 ≤ _
    rw [I.i 23 (by decide)]
    exact gI_bd (k := .u32) b 3
  · show _ ≤ ρ.i 24 ∧ ρ.i 24 ≤ _
    rw [I.i 24 (by decide)]
    exact gI_bd (k := .i64) b 4
  · show _ ≤ ρ.i 26 ∧ ρ.i 26 ≤ _
    rw [I.i 26 (by decide)]
    exact gI_bd (k := .i64) b 6
theorem PkI.cx (I : PkI rows b sd ρ) (hn : rows.length ≤ 32) (hs : IntKind.i64.wrap sd = sd) : pkCx.ok ρ := by
  refine ⟨fun x hx => ?_, fun t ht => by cases ht⟩
  rcases List.mem_cons.1 hx with rfl | hx
  · exact ⟨I.j0, I.j1⟩
  rcases List.mem_cons.1 hx with rfl | hx
  · show (0 : Int) ≤ ρ.i 2 ∧ ρ.i 2 ≤ 63
    have := I.i2
    omega
  · exact I.bs hn hs x hx
/-- What Pick is to leave. -/
def pkR (rows : List (List Value)) (b : List Value) (sd : Int) (w : World) (g0 g c : Nat) (T : TypeId) : Value → World → Prop := fun v w' => v = .tuple #[.int .i64 (pickP rows b sd), .int .i64 (pickE rows b sd)] ∧ ∃ g' c', TabPost w g0 g c T (pickR rows b sd) w' g' c'
theorem pk_ret {P : Program} {fn : Func} {s : Sy.St} {w w' : World} {g0 g c : Nat} {β : Bn} {a : Act} {T : TypeId} (hM : Md ρ (fun i => i = g0 ∨ c ≠ 0 ∧ i = g) w (ixB g c g0) 50 s β a w') {k : Nat} {len t ta te : Tm} (hk : k ≠ 0) (hat : (Sy.find 0 s.hp, (Sy.find k s.hp, retS P s fn.results.toList)) = (some ⟨0, T, [.slt k 7 (.il 0) len (.il 0)], true, none, .no⟩, (some ⟨k, 50, [], true, none, .tab bdLv t⟩, some (.tup [.c (.int .i64 ta), .c (.int .i64 te)]))))
    (hlen : (den ρ len).i = ((den ρ t).c.length : Int)) (ha : (den ρ ta).i = pickP rows b sd) (he : (den ρ te).i = pickE rows b sd) (ht : (den ρ t).c = pickR rows b sd) : bodyPost P fn (RetP (pkR rows b sd w g0 g c T)) .ret a w' := by
  obtain ⟨h1, h2⟩ := Prod.mk.inj hat
  obtain ⟨h2, h3⟩ := Prod.mk.inj h2
  refine ret_post (B := ⟨ρ, fun i => i = g0 ∨ c ≠ 0 ∧ i = g, w, ixB g c g0, 50⟩) hM h3 ⟨?_, β k, β (k + 1), ?_⟩
  · show Value.tuple #[.int .i64 (den ρ ta).i, .int .i64 (den ρ te).i] = _
    rw [ha, he]
  · rw [← ht]
    exact leaf_post (β0 := ixB g c g0) rfl ⟨hM.hp, hM.ne, hM.may, hM.only, hM.old⟩ (find_mem h1).1 (find_mem h2).1 hlen hk
theorem pickE_i (h0 : chkE (setP b 49152) = 0) {i : Nat} (h : pickI rows b sd = some i) : pickE rows b sd = bindE rows (setP b (place sd i)) := by
  unfold pickE
  rw [if_neg (fun h => h h0), h]
theorem pickP_i (h0 : chkE (setP b 49152) = 0) {i : Nat} (h : pickI rows b sd = some i) : pickP rows b sd = if bindE rows (setP b (place sd i)) = 0 then place sd i else 0 := by
  unfold pickP
  rw [if_neg (fun h => h h0), h]
theorem pickR_i (h0 : chkE (setP b 49152) = 0) {i : Nat} (h : pickI rows b sd = some i) : pickR rows b sd = bindR rows (setP b (place sd i)) := by
  unfold pickR
  rw [if_neg (fun h => h h0), h]
theorem pick_no (h0 : chkE (setP b 49152) = 0) (h : pickI rows b sd = none) : pickE rows b sd = 15 ∧ pickP rows b sd = 0 ∧ pickR rows b sd = rows := by
  unfold pickE pickP pickR
  rw [if_neg (fun h => h h0), if_neg (fun h => h h0), if_neg (fun h => h h0), h]
  exact ⟨rfl, rfl, rfl⟩
theorem pick_bad (h0 : chkE (setP b 49152) ≠ 0) : pickE rows b sd = chkE (setP b 49152) ∧ pickP rows b sd = 0 ∧ pickR rows b sd = rows := by
  unfold pickE pickP pickR
  rw [if_pos h0, if_pos h0, if_pos h0]
  exact ⟨rfl, rfl, rfl⟩
def pkA : List SV := [.one (.c (.ptr 0 0)), .one (.agg bdC), .one (.c (.int .i64 (.iv 27)))]
def pkSt (T : TypeId) : Sy.St := ⟨[], [tbOb T, tbTb], ⟨i64B 27 :: tbBs, []⟩, 50⟩
def pkBx (t : Tm) : Bk := ⟨50, 50, [.int .i64 (.iv 20), .int .u32 (.iv 21), .int .i64 t, .int .u32 (.iv 23), .int .i64 (.iv 24), .bool (.bv 25), .int .i64 (.iv 26)], true, none, .no⟩
end
end Go.Proofs.Ythjigajielhkfaa
