/- DgramSays: what both queues have in common; a round; the law's walk. -/
import Derived.Test.YthjigajielhkfaaDg0
namespace Go.Proofs.Ythjigajielhkfaa
open Go.RowKit Sy
set_option linter.unusedVariables false
set_option linter.unusedSimpArgs false

section
variable {ρ : Env} {S : Nat → Prop} {w0 : World} {β0 : Bn} {n0 : Nat} {s : Sy.St} {β : Bn} {a : Act} {w : World}
theorem Md.cxTo (hM : Md ρ S w0 β0 n0 s β a w) (c : Cx) (hc : c.ok ρ) : Md ρ S w0 β0 n0 { s with cx := c } β a w := ⟨hM.act, hM.hp, hM.ne, hM.may, hc, hM.only, hM.old⟩
/-- A block told anew. -/
theorem Md.tell (hM : Md ρ S w0 β0 n0 s β a w) {b nb : Bk} (hb : Sy.find b.l s.hp = some b) (hl : b.l = nb.l) (hn : nb.nilable = b.nilable) (hrw : nb.rw = true → b.rw = true) (hk : BkOk ρ β w b → BkOk ρ β w nb) : Md ρ S w0 β0 n0 { s with hp := replHp nb s.hp } β a w := by
  have hm := find_mem hb
  exact Sy.Md.repl hM hm.1 hl (fun hr => by unfold Bk.real at hr ⊢; rwa [hl, ← hn]) hrw hM.only (hk (hM.hp _ hm.1)) fun x hx _ => hM.hp x hx
end
theorem find_repl {l : Nat} {nb : Bk} (h : nb.l ≠ l) : ∀ {hp : List Bk}, Sy.find l (replHp nb hp) = Sy.find l hp
  | [] => rfl
  | b :: hp => by
    show Sy.find l ((if Nat.beq b.l nb.l then nb else b) :: replHp nb hp) = _
    by_cases q : Nat.beq b.l nb.l = true
    · have e := Nat.eq_of_beq_eq_true q
      rw [if_pos q]
      simp only [Sy.find]
      rw [if_neg (fun h2 => h (Nat.eq_of_beq_eq_true h2)), if_neg (fun h2 => h (by rw [← e]; exact Nat.eq_of_beq_eq_true h2))]
      exact find_repl h
    · rw [if_neg q]
      simp only [Sy.find]
      rw [find_repl h]
theorem kOK_eta {k : Kd} {v : Value} (h : kOK k v) : mkV k (getV k v) = v := by
  cases k with
  | int q =>
    obtain ⟨n, rfl, w⟩ := h
    have b := of_wf w
    show Value.int q (q.wrap n) = _
    rw [wrap_in b.1 b.2]
  | bool => obtain ⟨b, rfl⟩ := h; rfl
  | str =>
    obtain ⟨s, rfl, z⟩ := h
    show Value.string (if s.size ≤ 9223372036854775807 then s else none8) = _
    rw [if_pos (show s.size ≤ 9223372036854775807 from z)]
  | ptr =>
    obtain ⟨n, rfl⟩ := h
    show Value.pointer (some ⟨((n : Nat) : Int).toNat, 0, none⟩) = _
    rw [Int.toNat_natCast]
/-- A row of a datagram is told by its fields. -/
theorem gram_eta {r : List Value} (h : kAll grLv r) : r = [.int .u32 (getV (.int .u32) (r.getD 0 (.bool false))).i, .int .i64 (getV (.int .i64) (r.getD 1 (.bool false))).i, .int .u32 (getV (.int .u32) (r.getD 2 (.bool false))).i, .int .i64 (getV (.int .i64) (r.getD 3 (.bool false))).i, .string (getV .str (r.getD 4 (.bool false))).s] := by
  unfold grLv at h
  rcases r with _ | ⟨v0, r⟩
  · exact h.elim
  obtain ⟨h0, h⟩ := h
  rcases r with _ | ⟨v1, r⟩
  · exact h.elim
  obtain ⟨h1, h⟩ := h
  rcases r with _ | ⟨v2, r⟩
  · exact h.elim
  obtain ⟨h2, h⟩ := h
  rcases r with _ | ⟨v3, r⟩
  · exact h.elim
  obtain ⟨h3, h⟩ := h
  rcases r with _ | ⟨v4, r⟩
  · exact h.elim
  obtain ⟨h4, h⟩ := h
  rcases r with _ | ⟨v5, r⟩
  · show _ = [mkV (.int .u32) (getV (.int .u32) v0), mkV (.int .i64) (getV (.int .i64) v1), mkV (.int .u32) (getV (.int .u32) v2), mkV (.int .i64) (getV (.int .i64) v3), mkV .str (getV .str v4)]
    rw [kOK_eta h0, kOK_eta h1, kOK_eta h2, kOK_eta h3, kOK_eta h4]
  · exact h.elim
/-- Both queues wait for the same. -/
structure DgAt (ρ : Env) : Prop where
  n0 : 0 ≤ ρ.i 3
  n1 : ρ.i 3 ≤ 16
  f0 : 0 ≤ ρ.i 4
  f1 : ρ.i 4 ≤ 15
  o0 : 0 ≤ ρ.i 5
  l0 : -9223372036854775808 ≤ ρ.i 7
  l1 : ρ.i 7 ≤ 9223372036854775807
  c0 : (ρ.c 0).length = 16
  c1 : (ρ.c 1).length ≤ 16
  fit : ρ.i 5 + ρ.i 3 ≤ ((ρ.c 1).length : Int)
  same : ∀ j : Nat, (j : Int) < ρ.i 3 → (ρ.c 0).getD (((ρ.i 4).toNat + j) % 16) [] = (ρ.c 1).getD ((ρ.i 5).toNat + j) []
structure DgI (vs : Value) (len : Nat) (ρ : Env) : Prop where
  g : ρ.good
  v : ρ.v 0 = vs
  i0 : 0 ≤ ρ.i 0
  le : ρ.i 0 ≤ ρ.i 1
  i1 : ρ.i 1 = (len : Int)
  at_ : DgAt ρ
theorem DgAt.bs {ρ : Env} (h : DgAt ρ) (h0 : 0 ≤ ρ.i 0) (h1 : ρ.i 0 ≤ ρ.i 1) (h2 : ρ.i 1 ≤ 140737488355328) : Bds ρ dgBs := by
  obtain ⟨n0, n1, f0, f1, o0, l0, l1, c0, c1, fit, _⟩ := h
  intro x hx
  change x ∈ [_, _, _, _, _, _, _, _] at hx
  simp only [List.mem_cons, List.not_mem_nil, or_false] at hx
  rcases hx with rfl | rfl | rfl | rfl | rfl | rfl | rfl | rfl
  · show (0 : Int) ≤ ρ.i 0 ∧ ρ.i 0 ≤ 140737488355328
    omega
  · show (0 : Int) ≤ ρ.i 1 ∧ ρ.i 1 ≤ 140737488355328
    omega
  · show (0 : Int) ≤ ρ.i 3 ∧ ρ.i 3 ≤ 16
    omega
  · show (0 : Int) ≤ ρ.i 4 ∧ ρ.i 4 ≤ 15
    omega
  · show (0 : Int) ≤ ρ.i 5 ∧ ρ.i 5 ≤ 16
    omega
  · exact ⟨l0, l1⟩
  · show (16 : Int) ≤ ((ρ.c 0).length : Int) ∧ ((ρ.c 0).length : Int) ≤ 16
    omega
  · show (0 : Int) ≤ ((ρ.c 1).length : Int) ∧ ((ρ.c 1).length : Int) ≤ 16
    omega
theorem DgAt.pc {ρ : Env} (h : DgAt ρ) : ∀ t ∈ dgCx.pc, (den ρ t).b = true := fun t ht => by
  change t ∈ [_] at ht
  rw [List.mem_singleton] at ht
  subst ht
  rw [t_le]
  exact h.fit
theorem DgI.cx {vs : Value} {len : Nat} (hl : len ≤ 140737488355328) {ρ : Env} (h : DgI vs len ρ) : dgCx.ok ρ := ⟨h.at_.bs h.i0 h.le (by rw [h.i1]; omega), h.at_.pc⟩
/-- What is known of the row of a step. -/
theorem x_bs {cs : List Value} (h : leafAll stepLeaves cs) (ρ : Env) (u : Nat → Value) {m k : Int} (hk : (intAt cs 0) % m = k) : Bds { ρ.hi 100 cs with u := u } (xBs m k) := by
  obtain ⟨y0, hy0, hw0⟩ := leaf_int h 0 (k := .i64) rfl
  obtain ⟨y1, hy1, hw1⟩ := leaf_int h 1 (k := .i64) rfl
  obtain ⟨y2, hy2, hw2⟩ := leaf_int h 29 (k := .u32) rfl
  obtain ⟨y3, hy3, hw3⟩ := leaf_int h 30 (k := .i64) rfl
  obtain ⟨y4, hy4, hw4⟩ := leaf_int h 31 (k := .u32) rfl
  obtain ⟨y5, hy5, hw5⟩ := leaf_int h 32 (k := .i64) rfl
  obtain ⟨y6, hy6, hw6⟩ := leaf_str h 33 rfl
  intro x hx
  change x ∈ [_, _, _, _, _, _, _, _] at hx
  simp only [List.mem_cons, List.not_mem_nil, or_false] at hx
  rcases hx with rfl | rfl | rfl | rfl | rfl | rfl | rfl | rfl
  · show k ≤ intAt cs 0 % m ∧ intAt cs 0 % m ≤ k
    omega
  · show _ ≤ intAt cs 0 ∧ intAt cs 0 ≤ _
    unfold intAt
    rw [hy0]
    exact bounds_i64 hw0
  · show _ ≤ intAt cs 1 ∧ intAt cs 1 ≤ _
    unfold intAt
    rw [hy1]
    exact bounds_i64 hw1
  · show _ ≤ intAt cs 29 ∧ intAt cs 29 ≤ _
    unfold intAt
    rw [hy2]
    exact bounds_u32 hw2
  · show _ ≤ intAt cs 30 ∧ intAt cs 30 ≤ _
    unfold intAt
    rw [hy3]
    exact bounds_i64 hw3
  · show _ ≤ intAt cs 31 ∧ intAt cs 31 ≤ _
    unfold intAt
    rw [hy4]
    exact bounds_u32 hw4
  · show _ ≤ intAt cs 32 ∧ intAt cs 32 ≤ _
    unfold intAt
    rw [hy5]
    exact bounds_i64 hw5
  · show (0 : Int) ≤ ((strAt cs 33).size : Int) ∧ ((strAt cs 33).size : Int) ≤ _
    unfold strAt
    rw [hy6]
    have : y6.size ≤ 9223372036854775807 := hw6
    show (0 : Int) ≤ ((y6.size : Nat) : Int) ∧ ((y6.size : Nat) : Int) ≤ 9223372036854775807
    omega
theorem x_keep {ρ1 ρ2 : Env} {m k : Int} (h : Bds ρ1 (xBs m k)) (h2 : ∀ n, 100 ≤ n → ρ2.i n = ρ1.i n ∧ ρ2.s n = ρ1.s n) : Bds ρ2 (xBs m k) := by
  intro x hx
  have := h x hx
  change x ∈ [_, _, _, _, _, _, _, _] at hx
  simp only [List.mem_cons, List.not_mem_nil, or_false] at hx
  rcases hx with rfl | rfl | rfl | rfl | rfl | rfl | rfl | rfl
  · show _ ≤ ρ2.i 100 % m ∧ ρ2.i 100 % m ≤ _
    rw [(h2 100 (by omega)).1]
    exact this
  · show _ ≤ ρ2.i 100 ∧ ρ2.i 100 ≤ _
    rw [(h2 100 (by omega)).1]
    exact this
  · show _ ≤ ρ2.i 101 ∧ ρ2.i 101 ≤ _
    rw [(h2 101 (by omega)).1]
    exact this
  · show _ ≤ ρ2.i 129 ∧ ρ2.i 129 ≤ _
    rw [(h2 129 (by omega)).1]
    exact this
  · show _ ≤ ρ2.i 130 ∧ ρ2.i 130 ≤ _
    rw [(h2 130 (by omega)).1]
    exact this
  · show _ ≤ ρ2.i 131 ∧ ρ2.i 131 ≤ _
    rw [(h2 131 (by omega)).1]
    exact this
  · show _ ≤ ρ2.i 132 ∧ ρ2.i 132 ≤ _
    rw [(h2 132 (by omega)).1]
    exact this
  · show (0 : Int) ≤ ((ρ2.s 133).size : Int) ∧ ((ρ2.s 133).size : Int) ≤ _
    rw [(h2 133 (by omega)).2]
    exact this
theorem bds_app {ρ : Env} {a b : List Bd} (h1 : Bds ρ a) (h2 : Bds ρ b) : Bds ρ (a ++ b) := fun x hx => (List.mem_append.1 hx).elim (h1 x) (h2 x)
theorem bds_cons {ρ : Env} {a : Bd} {b : List Bd} (h1 : a.ok ρ) (h2 : Bds ρ b) : Bds ρ (a :: b) := fun x hx => (List.mem_cons.1 hx).elim (fun e => e ▸ h1) (h2 x)

/-! Lists. -/
theorem put_same {c0 c1 : List (List Value)} {row : List Value} {f n o : Nat} (h0 : c0.length = 16) (hn : n ≤ 15) (hf : f ≤ 15) (hfit : o + n ≤ c1.length) (h : ∀ j, j < n → c0.getD ((f + j) % 16) [] = c1.getD (o + j) []) :
    ∀ j, j < n + 1 → (c0.set ((f + n) % 16) row).getD ((f + j) % 16) [] = (cutL c1 o (o + n) ++ [row]).getD j [] := by
  intro j hj
  have hl : (cutL c1 o (o + n)).length = n := by unfold cutL; rw [List.length_take, List.length_drop]; omega
  by_cases e : j = n
  · subst e
    rw [List.getD, List.getElem?_set_self (by omega), List.getD, List.getElem?_append_right (by omega), hl, Nat.sub_self]
    rfl
  · have hlt : j < n := by omega
    rw [List.getD, List.getElem?_set_ne (by omega), List.getD, List.getElem?_append_left (by omega)]
    have := h j hlt
    rw [List.getD, List.getD] at this
    rw [this]
    unfold cutL
    rw [List.getElem?_take, if_pos (by omega), List.getElem?_drop]
theorem take_same {c0 c1 : List (List Value)} {z : List Value} {f n o : Nat} (h0 : c0.length = 16) (hn : n ≤ 16) (hf : f ≤ 15) (h : ∀ j, j < n → c0.getD ((f + j) % 16) [] = c1.getD (o + j) []) :
    ∀ j, j < n - 1 → (c0.set f z).getD (((f + 1) % 16 + j) % 16) [] = c1.getD (o + 1 + j) [] := by
  intro j hj
  rw [List.getD, List.getElem?_set_ne (by omega)]
  have := h (j + 1) (by omega)
  rw [List.getD] at this
  rw [show ((f + 1) % 16 + j) % 16 = (f + (j + 1)) % 16 from by omega, this]
  congr 1
  omega
theorem set_same {c : List (List Value)} {i : Nat} {r : List Value} (h : i < c.length) (hr : c.getD i [] = r) : c.set i r = c := by
  rw [← hr, List.getD, List.getElem?_eq_getElem h]
  exact List.set_getElem_self h
theorem hi_at {ρ : Env} {cs : List Value} (u : Nat → Value) (h : DgAt ρ) : DgAt { ρ.hi 100 cs with u := u } := ⟨h.n0, h.n1, h.f0, h.f1, h.o0, h.l0, h.l1, h.c0, h.c1, h.fit, h.same⟩
section
variable {vs : Value} {len : Nat} {w0 : World} {Q : Exit → Act → World → Prop}
abbrev DgQ (w0 : World) (vs : Value) (len m : Nat) (Q : Exit → Act → World → Prop) : Exit → Act → World → Prop := Exit.then (NextR (fun _ => False) w0 (fun _ => 0) 0 (dgTp Try.prog Try.f9) (DgI vs len) saysMu m) Q
/-- The datagram that a step has. -/
def nRow (ρ : Env) : List Value := [.int .u32 (ρ.i 129), .int .i64 (ρ.i 130), .int .u32 (ρ.i 131), .int .i64 (ρ.i 132), .string (ρ.s 133)]
/-- The next round's relation, whatever was done. -/
theorem dg_next {ρ ρ1 : Env} (hI : DgI vs len ρ) (hlt : ρ.i 0 < ρ.i 1) (g : ρ1.good) (v : ρ1.v 0 = vs) (i0 : ρ1.i 0 = ρ.i 0 + 1) (i1 : ρ1.i 1 = ρ.i 1) (h : DgAt ρ1) : DgI vs len ρ1 ∧ saysMu ρ1 < saysMu ρ := by
  have h0 := hI.i0
  have h1 := hI.i1
  refine ⟨⟨g, v, by omega, by omega, by omega, h⟩, ?_⟩
  unfold saysMu
  omega
set_option maxRecDepth 100000 in
set_option maxHeartbeats 2000000 in
theorem dg_put {k : Int} (hk : shR 0 (some (dgTp Try.prog Try.f9)) (dgOp Try.prog Try.f9 k) = shR 0 (some (dgTp Try.prog Try.f9)) (dgOp Try.prog Try.f9 0)) (hl : len ≤ 140737488355328) {ρ : Env} (hI : DgI vs len ρ) (hlt : ρ.i 0 < ρ.i 1) {cs : List Value} (hcs : leafAll stepLeaves cs) (hm : intAt cs 0 % 4 = k) {u : Nat → Value} {β : Bn} {a : Act} {w : World}
    (hM : Md { ρ.hi 100 cs with u := u } (fun _ => False) w0 (fun _ => 0) 0 (dgX Try.prog Try.f9) β a w) : ctx Try.prog rowP (saysB Try.f9 dgP) (DgQ w0 vs len (saysMu ρ) Q) .normal a w := by
  have hA := hi_at (cs := cs) u hI.at_
  have hB := bds_app (x_bs hcs ρ u hm) (hA.bs hI.i0 hI.le (by show ρ.i 1 ≤ _; rw [hI.i1]; omega))
  have hM1 := Md.cxTo hM ⟨xBs 4 k ++ dgBs, dgCx.pc⟩ ⟨hB, hA.pc⟩
  have hg : Env.good { ρ.hi 100 cs with u := u } := hI.g
  have hv : ({ ρ.hi 100 cs with u := u } : Env).v 0 = vs := hI.v
  have e0 : ({ ρ.hi 100 cs with u := u } : Env).i 0 = ρ.i 0 := rfl
  have e1 : ({ ρ.hi 100 cs with u := u } : Env).i 1 = ρ.i 1 := rfl
  generalize ({ ρ.hi 100 cs with u := u } : Env) = ρ1 at hM1 hA hg hv e0 e1
  have n0 := hA.n0
  have n1 := hA.n1
  have f0 := hA.f0
  have f1 := hA.f1
  have o0 := hA.o0
  have hfit := hA.fit
  refine round_aft .normal (r := dgOp Try.prog Try.f9 k) rfl (hk.trans dg_op0) (I := DgI vs len) (fun ρ h => by rw [dg_cx]; exact h.cx hl) hg (fun q hq => by rw [List.mem_singleton.1 hq]; exact ofSp_ok) ⟨?_, ?_, ?_, trivial⟩ hM1
  · intro hpc β u
    refine dg_next hI hlt hg hv (by show ρ1.i 0 + 1 = _; rw [e0]) e1 ⟨n0, n1, f0, f1, o0, (wrap_bd .i64 _).1, (wrap_bd .i64 _).2, hA.c0, hA.c1, hfit, hA.same⟩
  · intro hpc
    exfalso
    replace hpc : pcs ρ1 _ := hpc
    simp only [pcs, t_lt, t_le, t_eq, t_not, i_iv, i_il, and_true] at hpc
    omega
  · intro hpc β u
    replace hpc : pcs ρ1 _ := hpc
    have hn : ρ1.i 3 ≤ 15 := by
      have := hpc.1
      rw [t_not, t_lt, i_iv, i_il] at this
      omega
    have hs := put_same (row := nRow ρ1) (f := (ρ1.i 4).toNat) (n := (ρ1.i 3).toNat) (o := (ρ1.i 5).toNat) hA.c0 (by omega) (by omega) (by omega) (fun j hj => hA.same j (by omega))
    refine dg_next hI hlt hg hv (by show ρ1.i 0 + 1 = _; rw [e0]) e1 ⟨?_, ?_, f0, f1, Int.le_refl 0, hA.l0, hA.l1, ?_, ?_, ?_, ?_⟩
    · show 0 ≤ ρ1.i 3 + 1
      omega
    · show ρ1.i 3 + 1 ≤ 16
      omega
    · show ((ρ1.c 0).set _ _).length = 16
      rw [List.length_set, hA.c0]
    · show (cutL (ρ1.c 1) (ρ1.i 5).toNat (ρ1.i 5 + ρ1.i 3).toNat ++ [nRow ρ1]).length ≤ 16
      unfold cutL
      rw [List.length_append, List.length_take, List.length_drop]
      simp only [List.length_cons, List.length_nil]
      omega
    · show (0 : Int) + (ρ1.i 3 + 1) ≤ (((cutL (ρ1.c 1) (ρ1.i 5).toNat (ρ1.i 5 + ρ1.i 3).toNat ++ [nRow ρ1]).length : Nat) : Int)
      unfold cutL
      rw [List.length_append, List.length_take, List.length_drop]
      simp only [List.length_cons, List.length_nil]
      omega
    · intro j hj
      have hj : (j : Int) < ρ1.i 3 + 1 := hj
      have := hs j (by omega)
      show ((ρ1.c 0).set ((ρ1.i 4 + ρ1.i 3) % 16).toNat (nRow ρ1)).getD (((ρ1.i 4).toNat + j) % 16) [] = (cutL (ρ1.c 1) (ρ1.i 5).toNat (ρ1.i 5 + ρ1.i 3).toNat ++ [nRow ρ1]).getD ((0 : Int).toNat + j) []
      rw [show ((ρ1.i 4 + ρ1.i 3) % 16).toNat = ((ρ1.i 4).toNat + (ρ1.i 3).toNat) % 16 from by omega, show (ρ1.i 5 + ρ1.i 3).toNat = (ρ1.i 5).toNat + (ρ1.i 3).toNat from by omega, show (0 : Int).toNat + j = j from by simp]
      exact this
set_option maxRecDepth 100000 in
set_option maxHeartbeats 2000000 in
/-- Nobody waits. -/
theorem dg_none {k : Int} (hk : shR 0 (some (dgTp Try.prog Try.f9)) (dgO0 Try.prog Try.f9 k) = some [.back [.i 0 (.add (.iv 0) (.il 1))] [.le (.add (.iv 5) (.iv 3)) (tlen (.cv 1))]]) (hl : len ≤ 140737488355328) {ρ : Env} (hI : DgI vs len ρ) (hlt : ρ.i 0 < ρ.i 1) {cs : List Value} (hcs : leafAll stepLeaves cs) (hm : intAt cs 0 % 4 = k) (hn : ρ.i 3 = 0) {u : Nat → Value} {β : Bn} {a : Act} {w : World}
    (hM : Md { ρ.hi 100 cs with u := u } (fun _ => False) w0 (fun _ => 0) 0 (dgX Try.prog Try.f9) β a w) : ctx Try.prog rowP (saysB Try.f9 dgP) (DgQ w0 vs len (saysMu ρ) Q) .normal a w := by
  have hA := hi_at (cs := cs) u hI.at_
  have hB := bds_app (x_bs hcs ρ u hm) (hA.bs hI.i0 hI.le (by show ρ.i 1 ≤ _; rw [hI.i1]; omega))
  have hM1 := Md.cxTo hM (cx0 k) ⟨bds_cons (by show (0 : Int) ≤ ρ.i 3 ∧ ρ.i 3 ≤ 0; omega) hB, hA.pc⟩
  have hg : Env.good { ρ.hi 100 cs with u := u } := hI.g
  refine round_aft .normal (r := dgO0 Try.prog Try.f9 k) rfl hk (I := DgI vs len) (fun ρ h => by rw [dg_cx]; exact h.cx hl) hg (fun q hq => by rw [List.mem_singleton.1 hq]; exact ofSp_ok) ⟨?_, trivial⟩ hM1
  intro hpc β u
  exact dg_next hI hlt hg hI.v rfl rfl ⟨hA.n0, hA.n1, hA.f0, hA.f1, hA.o0, hA.l0, hA.l1, hA.c0, hA.c1, hA.fit, hA.same⟩
theorem cx_nil {ρ : Env} : Cx.ok ρ ⟨[], []⟩ := ⟨fun _ h => (by cases h), fun _ h => (by cases h)⟩
set_option maxRecDepth 100000 in
/-- The state in which the first row is told by letters. -/
theorem dg_first {k : Int} {ρ : Env} (hA : DgAt ρ) (h0 : 0 ≤ ρ.i 0) (h1 : ρ.i 0 ≤ ρ.i 1) (h2 : ρ.i 1 ≤ 140737488355328) (hx : ∀ ρ2 : Env, (∀ n, 100 ≤ n → ρ2.i n = ρ.i n ∧ ρ2.s n = ρ.s n) → Bds ρ2 (xBs 4 k)) (hn : 0 < ρ.i 3) {β : Bn} {a : Act} {w : World} (hM : Md ρ (fun _ => False) w0 (fun _ => 0) 0 (dgX Try.prog Try.f9) β a w) :
    Md (ρ.sub β frAs) (fun _ => False) w0 (fun _ => 0) 0 (dgX1 Try.prog Try.f9 k) β a w ∧ (den (ρ.sub β frAs) fT0).c = ρ.c 0 ∧ (den (ρ.sub β frAs) fT1).c = ρ.c 1 := by
  have n1 := hA.n1
  have f0 := hA.f0
  have f1 := hA.f1
  have o0 := hA.o0
  have hfit := hA.fit
  obtain ⟨q1, q2⟩ := Prod.mk.inj dg_xq
  obtain ⟨s1, s2⟩ := Prod.mk.inj dg_sub
  have hB0 := hM.hp _ (find_mem q1).1
  have hB0 : Blk w (β 0) _ (layV ρ _ _) ∧ insOk ρ [⟨0, grLv, 16, .cv 0⟩] := hB0
  have hk0 : ∀ r ∈ ρ.c 0, kAll grLv r := (hB0.2 _ (List.mem_cons_self ..)).2
  have hrow := gram_eta (hk0 _ (getD_mem (i := (ρ.i 4).toNat) (by rw [hA.c0]; omega)))
  have hfr : (den (ρ.sub β frAs) frow).c = [(ρ.c 0).getD (ρ.i 4).toNat []] := by
    rw [hrow]
    rfl
  have t0 : (den (ρ.sub β frAs) fT0).c = ρ.c 0 := by
    show (ρ.c 0).set (ρ.i 4).toNat ((den (ρ.sub β frAs) frow).c.headD []) = ρ.c 0
    rw [hfr]
    exact set_same (by rw [hA.c0]; omega) rfl
  have t1 : (den (ρ.sub β frAs) fT1).c = ρ.c 1 := by
    show (ρ.c 1).set (ρ.i 5).toNat ((den (ρ.sub β frAs) frow).c.headD []) = ρ.c 1
    rw [hfr]
    refine set_same (by omega) ?_
    have := hA.same 0 hn
    rw [Nat.add_zero, Nat.add_zero, Nat.mod_eq_of_lt (by omega)] at this
    exact this.symm
  have M1 := Md.cxTo hM ⟨[], []⟩ cx_nil
  have M2 := Sy.Md.set M1 frAs rfl s1 (fun b hb => by
    have : subBk frAs b ∈ ((dgX Try.prog Try.f9).hp.map (subBk frAs)) := List.mem_map.2 ⟨b, hb, rfl⟩
    have hall : ∀ (l : List Bk), l.map (subBk frAs) = l.map some → ∀ b ∈ l, subBk frAs b = some b := by
      intro l
      induction l with
      | nil => intro _ b hb; cases hb
      | cons x l ih =>
        intro h b hb
        simp only [List.map_cons, List.cons.injEq] at h
        rcases List.mem_cons.1 hb with rfl | hb
        · exact h.1
        · exact ih h.2 b hb
    exact hall _ s2 b hb) cx_nil
  have M3 := Md.tell M2 (b := dgT' (.cv 1)) (nb := dgT' fT1) q2 rfl rfl (fun h => h) (fun hb => by
    have hb : RowT w (β 40) (β 41) _ grLv (ρ.c 1) := hb
    show RowT w (β 40) (β 41) _ grLv (den (ρ.sub β frAs) fT1).c
    rw [t1]
    exact hb)
  have M4 := Md.tell M3 (b := dgQ (.cv 0)) (nb := dgQ fT0) (by
    show Sy.find 0 (replHp (dgT' fT1) _) = _
    rw [find_repl (show (dgT' fT1).l ≠ 0 from by decide)]
    exact q1) rfl rfl (fun h => h) (fun hb => by
    have hb : Blk w (β 0) _ ([] ++ ((ρ.c 0).flatten ++ _)) ∧ insOk (ρ.sub β frAs) [⟨0, grLv, 16, .cv 0⟩] := hb
    have hi := hb.2 _ (List.mem_cons_self ..)
    refine ⟨?_, fun x hx => ?_⟩
    · show Blk w (β 0) _ ([] ++ ((den (ρ.sub β frAs) fT0).c.flatten ++ _))
      rw [t0]
      exact hb.1
    · rw [List.mem_singleton.1 hx]
      show (den (ρ.sub β frAs) fT0).c.length = 16 ∧ ∀ r ∈ (den (ρ.sub β frAs) fT0).c, kAll grLv r
      rw [t0]
      exact hi)
  have hA2 : DgAt (ρ.sub β frAs) := ⟨hA.n0, hA.n1, hA.f0, hA.f1, hA.o0, hA.l0, hA.l1, hA.c0, hA.c1, hA.fit, hA.same⟩
  refine ⟨Md.cxTo M4 (cx1 k) ⟨bds_cons ?_ (bds_app ?_ (bds_app ?_ (hA2.bs h0 h1 h2))), fun t ht => ?_⟩, t0, t1⟩
  · show (1 : Int) ≤ ρ.i 3 ∧ ρ.i 3 ≤ 16
    omega
  · refine hx _ fun n hn => ⟨?_, ?_⟩
    · show (match tmI frAs n with | some t => (den ρ t).i | none => ρ.i n) = ρ.i n
      have : tmI frAs n = none := by
        unfold frAs
        simp only [tmI]
        rw [if_neg (fun e => by have := Nat.eq_of_beq_eq_true e; omega), if_neg (fun e => by have := Nat.eq_of_beq_eq_true e; omega), if_neg (fun e => by have := Nat.eq_of_beq_eq_true e; omega), if_neg (fun e => by have := Nat.eq_of_beq_eq_true e; omega)]
      rw [this]
    · show (match tmS frAs n with | some t => (den ρ t).s | none => ρ.s n) = ρ.s n
      have : tmS frAs n = none := by
        unfold frAs
        simp only [tmS]
        rw [if_neg (fun e => by have := Nat.eq_of_beq_eq_true e; omega)]
      rw [this]
  · intro x hx
    change x ∈ [_, _, _, _, _] at hx
    simp only [List.mem_cons, List.not_mem_nil, or_false] at hx
    rcases hx with rfl | rfl | rfl | rfl | rfl
    · exact getI_bd .u32 _
    · exact getI_bd .i64 _
    · exact getI_bd .u32 _
    · exact getI_bd .i64 _
    · exact getS_bd _
  · rcases List.mem_cons.1 ht with rfl | ht
    · rw [t_lt]
      show ρ.i 5 < ((ρ.c 1).length : Int)
      omega
    · exact hA2.pc t ht
set_option maxRecDepth 100000 in
set_option maxHeartbeats 2000000 in
/-- The first one is taken. -/
theorem dg_take (hl : len ≤ 140737488355328) {ρ : Env} (hI : DgI vs len ρ) (hlt : ρ.i 0 < ρ.i 1) {cs : List Value} (hcs : leafAll stepLeaves cs) (hm : intAt cs 0 % 4 = 2) (hn : 0 < ρ.i 3) {u : Nat → Value} {β : Bn} {a : Act} {w : World}
    (hM : Md { ρ.hi 100 cs with u := u } (fun _ => False) w0 (fun _ => 0) 0 (dgX Try.prog Try.f9) β a w) : ctx Try.prog rowP (saysB Try.f9 dgP) (DgQ w0 vs len (saysMu ρ) Q) .normal a w := by
  have hA := hi_at (cs := cs) u hI.at_
  obtain ⟨hM1, t0, t1⟩ := dg_first (k := 2) hA hI.i0 hI.le (by show ρ.i 1 ≤ _; rw [hI.i1]; omega) (fun ρ2 h2 => x_keep (x_bs hcs ρ u hm) h2) hn hM
  have hg : Env.good (Env.sub { ρ.hi 100 cs with u := u } β frAs) := hI.g
  have hv : (Env.sub { ρ.hi 100 cs with u := u } β frAs).v 0 = vs := hI.v
  have e0 : (Env.sub { ρ.hi 100 cs with u := u } β frAs).i 0 = ρ.i 0 := rfl
  have e1 : (Env.sub { ρ.hi 100 cs with u := u } β frAs).i 1 = ρ.i 1 := rfl
  have hA2 : DgAt (Env.sub { ρ.hi 100 cs with u := u } β frAs) := ⟨hA.n0, hA.n1, hA.f0, hA.f1, hA.o0, hA.l0, hA.l1, hA.c0, hA.c1, hA.fit, hA.same⟩
  have t0 : (den (Env.sub { ρ.hi 100 cs with u := u } β frAs) fT0).c = (Env.sub { ρ.hi 100 cs with u := u } β frAs).c 0 := t0
  have t1 : (den (Env.sub { ρ.hi 100 cs with u := u } β frAs) fT1).c = (Env.sub { ρ.hi 100 cs with u := u } β frAs).c 1 := t1
  have hn2 : 0 < (Env.sub { ρ.hi 100 cs with u := u } β frAs).i 3 := hn
  generalize Env.sub { ρ.hi 100 cs with u := u } β frAs = ρ1 at hM1 hg hv e0 e1 hA2 t0 t1 hn2
  have n1 := hA2.n1
  have f0 := hA2.f0
  have f1 := hA2.f1
  have o0 := hA2.o0
  have hfit := hA2.fit
  refine round_aft .normal (r := dgO1 Try.prog Try.f9 2) rfl dg_o12 (I := DgI vs len) (fun ρ h => by rw [dg_cx]; exact h.cx hl) hg (fun q hq => by rw [List.mem_singleton.1 hq]; exact ofSp_ok) ⟨?_, ?_, ?_, ?_, ?_, ?_, trivial⟩ hM1
  · intro _
    show (den ρ1 _).b = true
    simp only [t_le, i_min, i_max, i_len, i_iv, i_il, s_sv]
    omega
  · intro _
    show (den ρ1 _).b = true
    simp only [t_le, i_min, i_max, i_len, i_iv, i_il, s_sv]
    omega
  · intro _
    show (den ρ1 _).b = true
    simp only [t_le, i_min, i_max, i_len, i_iv, i_il, s_sv]
    omega
  · intro _
    show (den ρ1 _).b = true
    simp only [t_le, i_min, i_max, i_len, i_iv, i_il, s_sv]
    omega
  · intro hpc β u
    have hs := take_same (z := [.int .u32 0, .int .i64 0, .int .u32 0, .int .i64 0, .string none8]) (f := (ρ1.i 4).toNat) (n := (ρ1.i 3).toNat) (o := (ρ1.i 5).toNat) hA2.c0 (by omega) (by omega) (fun j hj => hA2.same j (by omega))
    refine dg_next hI hlt hg hv (by show ρ1.i 0 + 1 = _; rw [e0]) e1 ⟨?_, ?_, ?_, ?_, ?_, hA2.l0, hA2.l1, ?_, ?_, ?_, ?_⟩
    · show 0 ≤ ρ1.i 3 + -1
      omega
    · show ρ1.i 3 + -1 ≤ 16
      omega
    · show 0 ≤ (ρ1.i 4 + 1) % 16
      omega
    · show (ρ1.i 4 + 1) % 16 ≤ 15
      omega
    · show 0 ≤ ρ1.i 5 + 1
      omega
    · show ((den ρ1 fT0).c.set _ _).length = 16
      rw [List.length_set, t0, hA2.c0]
    · show (den ρ1 fT1).c.length ≤ 16
      rw [t1]
      exact hA2.c1
    · show ρ1.i 5 + 1 + (ρ1.i 3 + -1) ≤ (((den ρ1 fT1).c.length : Nat) : Int)
      rw [t1]
      omega
    · intro j hj
      have hj : (j : Int) < ρ1.i 3 + -1 := hj
      have := hs j (by omega)
      show ((den ρ1 fT0).c.set (ρ1.i 4).toNat [.int .u32 0, .int .i64 0, .int .u32 0, .int .i64 0, .string none8]).getD ((((ρ1.i 4 + 1) % 16).toNat + j) % 16) [] = (den ρ1 fT1).c.getD ((ρ1.i 5 + 1).toNat + j) []
      rw [t0, t1, show ((ρ1.i 4 + 1) % 16).toNat = ((ρ1.i 4).toNat + 1) % 16 from by omega, show (ρ1.i 5 + 1).toNat = (ρ1.i 5).toNat + 1 from by omega]
      exact this
  · intro hpc
    exfalso
    replace hpc : pcs ρ1 _ := hpc
    have h := hpc.1
    rw [t_not] at h
    refine h ?_
    refine bytes_beq.2 ?_
    rw [s_cut, s_cut]
    congr 2
    simp only [i_min, i_max, i_len, i_iv, i_il, s_sv]
    omega
set_option maxRecDepth 100000 in
set_option maxHeartbeats 2000000 in
/-- The first one is looked at. -/
theorem dg_peek (hl : len ≤ 140737488355328) {ρ : Env} (hI : DgI vs len ρ) (hlt : ρ.i 0 < ρ.i 1) {cs : List Value} (hcs : leafAll stepLeaves cs) (hm : intAt cs 0 % 4 = 3) (hn : 0 < ρ.i 3) {u : Nat → Value} {β : Bn} {a : Act} {w : World}
    (hM : Md { ρ.hi 100 cs with u := u } (fun _ => False) w0 (fun _ => 0) 0 (dgX Try.prog Try.f9) β a w) : ctx Try.prog rowP (saysB Try.f9 dgP) (DgQ w0 vs len (saysMu ρ) Q) .normal a w := by
  have hA := hi_at (cs := cs) u hI.at_
  obtain ⟨hM1, t0, t1⟩ := dg_first (k := 3) hA hI.i0 hI.le (by show ρ.i 1 ≤ _; rw [hI.i1]; omega) (fun ρ2 h2 => x_keep (x_bs hcs ρ u hm) h2) hn hM
  have hg : Env.good (Env.sub { ρ.hi 100 cs with u := u } β frAs) := hI.g
  have hv : (Env.sub { ρ.hi 100 cs with u := u } β frAs).v 0 = vs := hI.v
  have e0 : (Env.sub { ρ.hi 100 cs with u := u } β frAs).i 0 = ρ.i 0 := rfl
  have e1 : (Env.sub { ρ.hi 100 cs with u := u } β frAs).i 1 = ρ.i 1 := rfl
  have hA2 : DgAt (Env.sub { ρ.hi 100 cs with u := u } β frAs) := ⟨hA.n0, hA.n1, hA.f0, hA.f1, hA.o0, hA.l0, hA.l1, hA.c0, hA.c1, hA.fit, hA.same⟩
  have t0 : (den (Env.sub { ρ.hi 100 cs with u := u } β frAs) fT0).c = (Env.sub { ρ.hi 100 cs with u := u } β frAs).c 0 := t0
  have t1 : (den (Env.sub { ρ.hi 100 cs with u := u } β frAs) fT1).c = (Env.sub { ρ.hi 100 cs with u := u } β frAs).c 1 := t1
  generalize Env.sub { ρ.hi 100 cs with u := u } β frAs = ρ1 at hM1 hg hv e0 e1 hA2 t0 t1
  refine round_aft .normal (r := dgO1 Try.prog Try.f9 3) rfl dg_o13 (I := DgI vs len) (fun ρ h => by rw [dg_cx]; exact h.cx hl) hg (fun q hq => by rw [List.mem_singleton.1 hq]; exact ofSp_ok) ⟨?_, trivial⟩ hM1
  intro hpc β u
  refine dg_next hI hlt hg hv (by show ρ1.i 0 + 1 = _; rw [e0]) e1 ⟨hA2.n0, hA2.n1, hA2.f0, hA2.f1, hA2.o0, hA2.l0, hA2.l1, ?_, ?_, ?_, ?_⟩
  · show (den ρ1 fT0).c.length = 16
    rw [t0]
    exact hA2.c0
  · show (den ρ1 fT1).c.length ≤ 16
    rw [t1]
    exact hA2.c1
  · show ρ1.i 5 + ρ1.i 3 ≤ (((den ρ1 fT1).c.length : Nat) : Int)
    rw [t1]
    exact hA2.fit
  · intro j hj
    show (den ρ1 fT0).c.getD _ [] = (den ρ1 fT1).c.getD _ []
    rw [t0, t1]
    exact hA2.same j hj
def dgQz : Bk := ⟨0, 215, (Sy.baseS [.int .u32 (.il 0), .int .i64 (.il 0), .int .u32 (.il 0), .int .i64 (.il 0), .str (.sl [])] 16) ++ [.int .i64 (.il 0), .int .i64 (.il 0), .int .i64 (.il 0)], true, none, .no⟩
theorem zero_rows (n : Nat) (r : List Value) : ∀ x ∈ List.replicate n r, x = r := fun x hx => (List.mem_replicate.1 hx).2
theorem baseS_den (ρ : Env) (β : Bn) (zs : List C) : ∀ n, denL ρ β (Sy.baseS zs n) = (List.replicate n (denL ρ β zs)).flatten
  | 0 => rfl
  | n + 1 => by
    rw [Sy.baseS, denL_app, baseS_den ρ β zs n, List.replicate_succ, List.flatten_cons]
set_option maxRecDepth 100000 in
set_option maxHeartbeats 2000000 in
theorem walk_dgramSays (w : World) (a : Option Addr) (len cap : Nat) (o : Opened stepLeaves w a len cap) (hl : len ≤ 140737488355328) :
    Calls Try.prog 9 #[.slice a len cap] w fun e w' => e = .returned (.bool true) ∧ Below w.heap.size w w' := by
  obtain ⟨C, _, hC0⟩ := came_of o
  have hC : ∀ i, i < len → ∃ b off cap', Value.slice a len cap = .slice (some ⟨b, off, none⟩) len cap' ∧ leafAll stepLeaves (C i) ∧ w.rangeAt b (off + i * 45) (C i) := by
    rcases hC0 with rfl | ⟨b, off, rfl, _, hC⟩
    · intro i hi
      omega
    · exact fun i hi => ⟨b, off, cap, rfl, (hC i hi).1, (hC i hi).2⟩
  let z : List Value := [.int .u32 0, .int .i64 0, .int .u32 0, .int .i64 0, .string none8]
  let ρ0 : Env := { mkEnv [0, (len : Int)] [] [] [.slice a len cap] with c := fun _ => List.replicate 16 z }
  have hg0 : ρ0.good := fun i => by
    rcases i with _ | i
    · rfl
    · rfl
  have hzk : kAll grLv z := ⟨⟨0, rfl, rfl⟩, ⟨0, rfl, rfl⟩, ⟨0, rfl, rfl⟩, ⟨0, rfl, rfl⟩, ⟨none8, rfl, by decide⟩, trivial⟩
  have hM0 : Md ρ0 (fun _ => False) w (fun _ => 0) 0 ⟨[], [], ⟨[], []⟩, 0⟩ (fun _ => 0) ⟨#[], []⟩ w := Md.start ⟨fun _ h => (by cases h), fun _ h => (by cases h)⟩
  refine (calls_pre (B := ⟨ρ0, fun _ => False, w, fun _ => 0, 0⟩) (sp := []) (p := dgP) (xs := [.one (.c (.opq 0))]) (s := ⟨[], [], ⟨[], []⟩, 0⟩) (r := dgPre Try.prog Try.f9) hg0 (fun q hq => by cases hq) rfl Try.func9 rfl rfl dg_pre hM0 (R := fun v w' => v = .bool true ∧ Below w.heap.size w w') ⟨?_, trivial⟩ rfl).mono ?_
  · intro _ β a1 w1 hM1
    obtain ⟨fr, tm⟩ := Prod.mk.inj dg_free
    obtain ⟨fr1, fr2⟩ := Prod.mk.inj fr
    obtain ⟨tm1, tm2⟩ := Prod.mk.inj tm
    have M1 := Md.tell (b := dgQz) (nb := dgQ0) hM1 dg_q0 rfl rfl (fun h => h) (fun hb => by
      have hb : Blk w1 (β 0) _ (denL ρ0 β (_ ++ _)) := hb
      rw [denL_app, baseS_den] at hb
      refine ⟨hb, fun x hx => ?_⟩
      rw [List.mem_singleton.1 hx]
      exact ⟨List.length_replicate .., fun r hr => by rw [zero_rows 16 z r hr]; exact hzk⟩)
    obtain ⟨β2, M2⟩ := Sy.Md.tabCell M1 2 0 40 48 grLv (Nat.zero_le _) fr1 fr2
    refine says_loop dg_code (a0 := a) (cap := cap) (I := DgI (.slice a len cap) len) (fun g _ h => h) hC (fun ρ h => ⟨h.g, h.v, h.i0, h.le, h.i1⟩) ?_ ?_ (show ρ0.v 0 = .slice a len cap from rfl) (show ρ0.i 1 = (len : Int) from rfl) tm1 tm2 dg_okP ?_ M2
    · intro ρ hI hlt cs hcs u β a w1 hM Q
      have h4 : intAt cs 0 % 4 = 0 ∨ intAt cs 0 % 4 = 1 ∨ intAt cs 0 % 4 = 2 ∨ intAt cs 0 % 4 = 3 := by omega
      have hz : ρ.i 3 = 0 ∨ 0 < ρ.i 3 := by
        have := hI.at_.n0
        omega
      rcases h4 with h4 | h4 | h4 | h4
      · exact dg_put rfl hl hI hlt hcs h4 hM
      · exact dg_put (dg_op1.trans dg_op0.symm) hl hI hlt hcs h4 hM
      · rcases hz with hz | hz
        · exact dg_none dg_o02 hl hI hlt hcs h4 hz hM
        · exact dg_take hl hI hlt hcs h4 hz hM
      · rcases hz with hz | hz
        · exact dg_none dg_o03 hl hI hlt hcs h4 hz hM
        · exact dg_peek hl hI hlt hcs h4 hz hM
    · intro ρ hI he β a w1 hM
      refine aft_fin (B := ⟨ρ, fun _ => False, w, fun _ => 0, 0⟩) hI.g (fun q hq => by cases hq) rfl .normal dg_end ⟨?_, trivial⟩ hM
      intro _ β w2 hH
      exact ⟨rfl, Sy.Only.below_all hH.only⟩
    · intro β ac w1 hM
      have hI0 : ∀ u, DgI (.slice a len cap) len { ρ0.sub β [.i 0 (.il 0), .i 5 (.il 0), .i 3 (.il 0), .i 6 (.il 0), .i 7 (.il 0), .i 4 (.il 0), .i 3 (.il 0), .i 7 (.il 0), .c 1 tn] with u := u } := fun u => by
        refine ⟨hg0, rfl, Int.le_refl 0, (by show (0 : Int) ≤ (len : Int); omega), rfl, ?_⟩
        refine ⟨Int.le_refl 0, (by show (0 : Int) ≤ 16; omega), Int.le_refl 0, (by show (0 : Int) ≤ 15; omega), Int.le_refl 0, (by show (-9223372036854775808 : Int) ≤ 0; omega), (by show (0 : Int) ≤ 9223372036854775807; omega), List.length_replicate .., Nat.zero_le _, Int.le_refl 0, fun j hj => ?_⟩
        have hj : (j : Int) < 0 := hj
        omega
      obtain ⟨u, β', hM5⟩ := Sy.Md.enter hM dg_in fun u => by rw [dg_cx]; exact (hI0 u).cx hl
      exact ⟨_, β', hI0 u, hM5⟩
  · rintro e w' ⟨v, rfl, rfl, hb⟩
    exact ⟨rfl, hb⟩
end
end Go.Proofs.Ythjigajielhkfaa
