/- addr.Parse. -/
import Derived.Test.YtdkgekmjkindmaaDoorAd5
namespace Go.Proofs.YtdkgekmjkindmaaDoor
open Go.RowKit Go.Shelf Go.Lib
set_option linter.unusedVariables false
attribute [local go_sem] Oper.semAt_some
/-- What the program's loop reckons. -/
def psAcc (a : Int) : List ByteArray → Option Int
  | [] => some a
  | x :: r => match parseUintB 8 x.data.toList with
    | .ok k => psAcc (a * 256 % 4294967296 + k) r
    | _ => none
theorem psAcc_append (a : Int) (l r : List ByteArray) : psAcc a (l ++ r) = (psAcc a l).bind fun b => psAcc b r := by
  induction l generalizing a with
  | nil => rfl
  | cons x l ih =>
    simp only [List.cons_append, psAcc]
    split
    · exact ih _
    · rfl
theorem psAcc_none {l r : List ByteArray} (h : l <+: r) (q : psAcc 0 l = none) : psAcc 0 r = none := by
  obtain ⟨t, rfl⟩ := h
  rw [psAcc_append, q]
  rfl
def psV (s : ByteArray) : Int × Int := match psAcc 0 (pieces s) with
  | some a => if prS a = s then (a, 0) else (0, 4)
  | none => (0, 4)
theorem parseB_lt {l : List UInt8} {k : Nat} (h : parseUintB 8 l = .ok k) : k < 256 := by
  have := parseUintB_le h
  omega
theorem or8 {a : Int} {k : Nat} (h0 : 0 ≤ a) (h1 : a ≤ 4294967295) (hk : k < 256) : bits .or .u32 (a * 256 % 4294967296) (k : Int) = a * 256 % 4294967296 + k ∧ 0 ≤ a * 256 % 4294967296 + k ∧ a * 256 % 4294967296 + k ≤ 4294967295 := by
  obtain ⟨n, hn⟩ : ∃ n : Nat, a * 256 % 4294967296 = 256 * (n : Int) := ⟨(a % 16777216).toNat, by omega⟩
  have hlt : (n : Int) < 16777216 := by omega
  rw [hn]
  have hor : 256 * n ||| k = 256 * n + k := (Nat.two_pow_add_eq_or_of_lt (i := 8) hk n).symm
  have e1 : (BitVec.ofInt 32 (256 * (n : Int)) ||| BitVec.ofInt 32 (k : Int)).toNat = 256 * n + k := by
    rw [BitVec.toNat_or, ← hor]
    congr 1
    · show ((256 * (n : Int)) % 4294967296).toNat = 256 * n
      omega
    · show ((k : Int) % 4294967296).toNat = k
      omega
  refine ⟨?_, by omega, by omega⟩
  show IntKind.u32.wrap ((BitVec.ofInt 32 (256 * (n : Int)) ||| BitVec.ofInt 32 (k : Int)).toNat : Int) = _
  rw [e1]
  have h2 : ((256 * n + k : Nat) : Int) = 256 * (n : Int) + k := by omega
  rw [h2]
  exact Sy.wrap_in (show (0 : Int) ≤ _ by omega) (show _ ≤ (4294967295 : Int) by omega)
theorem toList_inj {a b : ByteArray} (h : a.toList = b.toList) : a = b := by
  rw [ByteArray.toList_eq, ByteArray.toList_eq] at h
  exact ByteArray.ext (Array.ext' h)
theorem ps_fin {w W : World} {D : Nat} {u : Int} {e : Int} (h2 : Boxed W w.heap.size 22 (.int .u32 u)) (h3 : Boxed W (w.heap.size + 1) 23 (.int .i64 e)) (hb : Below w.heap.size w W) (hK : W.heap[D]? = some (.deferred (some []))) (hD : w.heap.size + 2 ≤ D) :
    ((W.putObj D (.deferred none)).cell? ⟨w.heap.size, 0, none⟩ = some (.int .u32 u) ∧ (W.putObj D (.deferred none)).cell? ⟨w.heap.size + 1, 0, none⟩ = some (.int .i64 e)) ∧ Below w.heap.size w (W.putObj D (.deferred none)) := by
  have hlt := (Array.getElem?_eq_some_iff.1 hK).1
  refine ⟨⟨?_, ?_⟩, hb.trans (below_putObj (by omega) hlt _)⟩
  · exact (box_cell (h2.kept (grownBy_putObj' W D (.deferred none)) (fun q => by cases q; omega))).1
  · exact (box_cell (h3.kept (grownBy_putObj' W D (.deferred none)) (fun q => by cases q; omega))).1
set_option maxRecDepth 100000 in
set_option maxHeartbeats 4000000 in
theorem parse_calls (s : ByteArray) (hs : s.size < 4294967281) {w : World} (hw : LibW w) : Calls Tryd.prog 5 #[.string s] w fun e w' => e = .returned (.tuple #[.int .u32 (psV s).1, .int .i64 (psV s).2]) ∧ Below w.heap.size w w' := by
  refine (callsIn_wide (n := 5)).1 ?_
  refine callsIn_of_wp_marks Tryd.func5 rfl trivial ?_ rfl
  simp only [Tryd.ntmps5, List.size_toArray, List.length_cons, List.length_nil, Nat.reduceAdd, Nat.reduceSub, Array.replicate_succ, Array.replicate_zero, List.push_toArray, List.append_toArray, List.nil_append, List.cons_append]
  have HQ := fun w => seq_calls 4 (by decide) s w
  gi_wp2_with (refine ⟨trivial, ?_⟩; gi_at_call 17; refine (HQ _).mono ?_; rintro e w' ⟨rfl, rfl⟩)
  obtain ⟨W0, hW0⟩ : ∃ W0, (((((w.alloc (.cells #[.int .u32 0] 22)).alloc (.cells #[.int .i64 0] 23)).alloc (.cells #[.int .u32 0] 22)).alloc (.cells #[.string s] 9)).alloc (.cells #[.string dot] 9)).alloc (.cells #[.int .i64 0] 3) = W0 := ⟨_, rfl⟩
  have z0 : W0.heap.size = w.heap.size + 6 := by rw [← hW0]; simp
  have B0 : Boxed W0 w.heap.size 22 (.int .u32 0) := by rw [← hW0]; exact (((((Boxed.new w _ _).alloc _).alloc _).alloc _).alloc _).alloc _
  have B1 : Boxed W0 (w.heap.size + 1) 23 (.int .i64 0) := by
    rw [← hW0]
    refine ((((?_ : Boxed _ _ _ _).alloc _).alloc _).alloc _).alloc _
    have := Boxed.new (w.alloc (.cells #[.int .u32 0] 22)) 23 (.int .i64 0)
    rwa [World.size_alloc] at this
  have B2 : Boxed W0 (w.heap.size + 2) 22 (.int .u32 0) := by
    rw [← hW0]
    refine (((?_ : Boxed _ _ _ _).alloc _).alloc _).alloc _
    have := Boxed.new ((w.alloc (.cells #[.int .u32 0] 22)).alloc (.cells #[.int .i64 0] 23)) 22 (.int .u32 0)
    rwa [World.size_alloc, World.size_alloc] at this
  have B3 : Boxed W0 (w.heap.size + 3) 9 (.string s) := by
    rw [← hW0]
    refine ((?_ : Boxed _ _ _ _).alloc _).alloc _
    have := Boxed.new (((w.alloc (.cells #[.int .u32 0] 22)).alloc (.cells #[.int .i64 0] 23)).alloc (.cells #[.int .u32 0] 22)) 9 (.string s)
    rwa [World.size_alloc, World.size_alloc, World.size_alloc] at this
  have B4 : Boxed W0 (w.heap.size + 3 + 1) 9 (.string dot) := by
    rw [← hW0]
    refine (?_ : Boxed _ _ _ _).alloc _
    have := Boxed.new ((((w.alloc (.cells #[.int .u32 0] 22)).alloc (.cells #[.int .i64 0] 23)).alloc (.cells #[.int .u32 0] 22)).alloc (.cells #[.string s] 9)) 9 (.string dot)
    rwa [World.size_alloc, World.size_alloc, World.size_alloc, World.size_alloc] at this
  have B5 : Boxed W0 (w.heap.size + 3 + 2) 3 (.int .i64 0) := by
    rw [← hW0]
    have := Boxed.new (((((w.alloc (.cells #[.int .u32 0] 22)).alloc (.cells #[.int .i64 0] 23)).alloc (.cells #[.int .u32 0] 22)).alloc (.cells #[.string s] 9)).alloc (.cells #[.string dot] 9)) 3 (.int .i64 0)
    rwa [World.size_alloc, World.size_alloc, World.size_alloc, World.size_alloc, World.size_alloc] at this
  have hB0 : Below w.heap.size w W0 := by
    rw [← hW0]
    exact ((((((Below.refl _ w).alloc (Nat.le_refl _) _).alloc (by simp) _).alloc (by simp; omega) _).alloc (by simp; omega) _).alloc (by simp; omega) _).alloc (by simp; omega) _
  have hn : w.heap.size + 1 + 1 + 1 = w.heap.size + 3 := by omega
  rw [hW0]
  clear hW0
  have h8 := hw.size
  refine range_box (m := w.heap.size + 3) (c := w.heap.size + 3 + 3) rfl (by decide) (gf := 42) (lb := #[.pointer (some ⟨w.heap.size + 3 + 1, 0, none⟩), .pointer (some ⟨w.heap.size + 3, 0, none⟩), .pointer (some ⟨w.heap.size + 3 + 2, 0, none⟩)]) (by simp [go_sem]) trivial (enters_of Tryd.func42 (by kernel_rfl) rfl)
    (seq_stops 4 (w.heap.size + 3) (by decide) s hs W0 B3 B4 B5) (by omega) (by omega) (fun _ => rfl)
    (fun pre W => Below w.heap.size w W ∧ Boxed W w.heap.size 22 (.int .u32 0) ∧ Boxed W (w.heap.size + 1) 23 (.int .i64 0) ∧ ∃ a, psAcc 0 pre = some a ∧ (0 ≤ a ∧ a ≤ 4294967295) ∧ Boxed W (w.heap.size + 2) 22 (.int .u32 a))
    (fun pre W => Below w.heap.size w W ∧ Boxed W w.heap.size 22 (.int .u32 0) ∧ Boxed W (w.heap.size + 1) 23 (.int .i64 4) ∧ psAcc 0 pre = none)
    ?_ ?_ ?_ ⟨hB0, B0, B1, 0, rfl, ⟨by decide, by decide⟩, B2⟩
    (fun x => { tmps := #[.string s, undef, .pointer (some ⟨w.heap.size, 0, none⟩), .pointer (some ⟨w.heap.size + 1, 0, none⟩), .pointer (some ⟨w.heap.size + 2, 0, none⟩), .string x, undef, undef, .string s, .func (.func 42) #[] #[.pointer (some ⟨w.heap.size + 3 + 1, 0, none⟩), .pointer (some ⟨w.heap.size + 3, 0, none⟩), .pointer (some ⟨w.heap.size + 3 + 2, 0, none⟩)], .string x, undef, undef, undef, undef, undef, undef, undef, undef, undef, undef, undef, undef, undef, undef, undef, undef, undef], defers := [] }) ?assign ?body ?done ?stop
  · rintro pre A B ⟨h1, h2, h3, a, h4, h5, h6⟩ hb
    exact ⟨h1.trans (hb.mono (by omega)), (hb.block _ (by omega)).trans h2, (hb.block _ (by omega)).trans h3, a, h4, h5, (hb.block _ (by omega)).trans h6⟩
  · rintro pre A B ⟨h1, h2, h3, h4⟩ hb
    exact ⟨h1.trans (hb.mono (by omega)), (hb.block _ (by omega)).trans h2, (hb.block _ (by omega)).trans h3, h4⟩
  · rintro pre A ⟨h1, _⟩
    exact hw.below h8 h1
  case assign =>
    intro l x W K hK
    gi_wp2
    exact hK
  case body =>
    rintro l pre x W ⟨h1, h2, h3, a, h4, h5, h6⟩ hx
    have HL := hw.below h8 h1
    have keep : ∀ {W' : World} {i : Nat} {ty : TypeId} {v : Value}, Below W.heap.size W W' → Boxed W i ty v → Boxed W' i ty v := fun hb hx => (hb.block _ hx.lt).trans hx
    have HP := pu_calls HL x hx
    cases q : parseUintB 8 x.data.toList with
    | ok k =>
      have hk := parseB_lt q
      have HP' : Calls Tryd.prog 18 #[.string x, .int .i64 10, .int .i64 8] W fun e w' => e = .returned (.tuple #[.int .u64 (k : Int), .nilIface]) ∧ Boxed w' (w.heap.size + 2) 22 (.int .u32 a) ∧ w'.cell? ⟨w.heap.size + 2, 0, none⟩ = some (.int .u32 a) ∧ w'.frozen? ⟨w.heap.size + 2, 0, none⟩ = false ∧ Below W.heap.size W w' := by
        refine HP.mono ?_
        rw [q]
        rintro e w' ⟨⟨u, v, rfl, rfl, rfl⟩, hb⟩
        exact ⟨rfl, keep hb h6, (box_cell (keep hb h6)).1, (box_cell (keep hb h6)).2, hb⟩
      clear HP
      have hps : psAcc 0 (pre ++ [x]) = some (a * 256 % 4294967296 + k) := by
        rw [psAcc_append, h4]
        show psAcc a [x] = _
        unfold psAcc
        rw [q]
        rfl
      have hlt := h6.lt
      gi_wp2_with (refine ⟨trivial, ?_⟩; gi_at_call 18; refine (CallsIn.inRound l (callsIn_wide.2 HP')).mono ?_; rintro e w2 ⟨rfl, b6, c6, f6, hb⟩)
      obtain ⟨o1, o2, o3⟩ := or8 h5.1 h5.2 hk
      rw [o1]
      refine ⟨(Above.of_below hb).setCell (p := ⟨w.heap.size + 2, 0, none⟩) (show w.heap.size + 2 < w.heap.size + 3 by omega) _, (h1.trans (hb.mono h1.size)).setCell (p := ⟨w.heap.size + 2, 0, none⟩) (show w.heap.size ≤ w.heap.size + 2 by omega) _, (keep hb h2).other (by omega) _, (keep hb h3).other (by omega) _, _, hps, ⟨o2, o3⟩, b6.set _⟩
    | range =>
      rw [q] at HP
      have HP' : Calls Tryd.prog 18 #[.string x, .int .i64 10, .int .i64 8] W fun e w' => ∃ u t p, e = .returned (.tuple #[.int .u64 u, .iface t p]) ∧ (w'.cell? ⟨w.heap.size, 0, none⟩ = some (.int .u32 0) ∧ w'.frozen? ⟨w.heap.size, 0, none⟩ = false) ∧ (w'.cell? ⟨w.heap.size + 1, 0, none⟩ = some (.int .i64 0) ∧ w'.frozen? ⟨w.heap.size + 1, 0, none⟩ = false) ∧ Boxed w' w.heap.size 22 (.int .u32 0) ∧ Boxed w' (w.heap.size + 1) 23 (.int .i64 0) ∧ Below W.heap.size W w' := by
        refine HP.mono ?_
        rintro e w' ⟨⟨u, v, rfl, t, p, rfl⟩, hb⟩
        exact ⟨u, t, p, rfl, box_cell (keep hb h2), box_cell (keep hb h3), keep hb h2, keep hb h3, hb⟩
      clear HP
      have hps : psAcc 0 (pre ++ [x]) = none := by
        rw [psAcc_append, h4]
        show psAcc a [x] = _
        unfold psAcc
        rw [q]
      gi_wp2_with (refine ⟨trivial, ?_⟩; gi_at_call 18; refine (CallsIn.inRound l (callsIn_wide.2 HP')).mono ?_; rintro e w2 ⟨u, t, p, rfl, ⟨c2, f2⟩, ⟨c3, f3⟩, b2, b3, hb⟩)
      refine ⟨((Above.of_below hb).setCell (p := ⟨w.heap.size, 0, none⟩) (show w.heap.size < w.heap.size + 3 by omega) _).setCell (p := ⟨w.heap.size + 1, 0, none⟩) (show w.heap.size + 1 < w.heap.size + 3 by omega) _, ((h1.trans (hb.mono h1.size)).setCell (p := ⟨w.heap.size, 0, none⟩) (Nat.le_refl _) _).setCell (p := ⟨w.heap.size + 1, 0, none⟩) (show w.heap.size ≤ w.heap.size + 1 by omega) _, (b2.set _).other (by omega) _, (b3.other (by omega) _).set _, hps⟩
    | _ =>
      rw [q] at HP
      have HP' : Calls Tryd.prog 18 #[.string x, .int .i64 10, .int .i64 8] W fun e w' => ∃ u t p, e = .returned (.tuple #[.int .u64 u, .iface t p]) ∧ (w'.cell? ⟨w.heap.size, 0, none⟩ = some (.int .u32 0) ∧ w'.frozen? ⟨w.heap.size, 0, none⟩ = false) ∧ (w'.cell? ⟨w.heap.size + 1, 0, none⟩ = some (.int .i64 0) ∧ w'.frozen? ⟨w.heap.size + 1, 0, none⟩ = false) ∧ Boxed w' w.heap.size 22 (.int .u32 0) ∧ Boxed w' (w.heap.size + 1) 23 (.int .i64 0) ∧ Below W.heap.size W w' := by
        refine HP.mono ?_
        rintro e w' ⟨⟨u, v, rfl, t, p, rfl⟩, hb⟩
        exact ⟨u, t, p, rfl, box_cell (keep hb h2), box_cell (keep hb h3), keep hb h2, keep hb h3, hb⟩
      clear HP
      have hps : psAcc 0 (pre ++ [x]) = none := by
        rw [psAcc_append, h4]
        show psAcc a [x] = _
        unfold psAcc
        rw [q]
      gi_wp2_with (refine ⟨trivial, ?_⟩; gi_at_call 18; refine (CallsIn.inRound l (callsIn_wide.2 HP')).mono ?_; rintro e w2 ⟨u, t, p, rfl, ⟨c2, f2⟩, ⟨c3, f3⟩, b2, b3, hb⟩)
      refine ⟨((Above.of_below hb).setCell (p := ⟨w.heap.size, 0, none⟩) (show w.heap.size < w.heap.size + 3 by omega) _).setCell (p := ⟨w.heap.size + 1, 0, none⟩) (show w.heap.size + 1 < w.heap.size + 3 by omega) _, ((h1.trans (hb.mono h1.size)).setCell (p := ⟨w.heap.size, 0, none⟩) (Nat.le_refl _) _).setCell (p := ⟨w.heap.size + 1, 0, none⟩) (show w.heap.size ≤ w.heap.size + 1 by omega) _, (b2.set _).other (by omega) _, (b3.other (by omega) _).set _, hps⟩
  case done =>
    rintro D ys W hD rfl ⟨h1, h2, h3, a, h4, h5, h6⟩ hK
    have HL := hw.below h8 h1
    have keep : ∀ {W' : World} {i : Nat} {ty : TypeId} {v : Value}, Below W.heap.size W W' → Boxed W i ty v → Boxed W' i ty v := fun hb hx => (hb.block _ hx.lt).trans hx
    obtain ⟨c6, f6⟩ := box_cell h6
    have HP : Calls Tryd.prog 7 #[.int .u32 a] W fun e w' => e = .returned (.string (prS a)) ∧ (w'.cell? ⟨w.heap.size + 2, 0, none⟩ = some (.int .u32 a) ∧ w'.frozen? ⟨w.heap.size, 0, none⟩ = false ∧ w'.frozen? ⟨w.heap.size + 1, 0, none⟩ = false) ∧ (w'.cell? ⟨w.heap.size, 0, none⟩ = some (.int .u32 0) ∧ w'.cell? ⟨w.heap.size + 1, 0, none⟩ = some (.int .i64 0)) ∧ Boxed w' w.heap.size 22 (.int .u32 0) ∧ Boxed w' (w.heap.size + 1) 23 (.int .i64 0) ∧ w'.heap[D]? = some (.deferred (some [])) ∧ Below W.heap.size W w' := by
      refine (print_calls h5.1 h5.2 HL).mono ?_
      rintro e w' ⟨rfl, hb⟩
      exact ⟨rfl, ⟨(box_cell (keep hb h6)).1, (box_cell (keep hb h2)).2, (box_cell (keep hb h3)).2⟩, ⟨(box_cell (keep hb h2)).1, (box_cell (keep hb h3)).1⟩, keep hb h2, keep hb h3, (hb.block _ (Array.getElem?_eq_some_iff.1 hK).1).trans hK, hb⟩
    have hps : psV s = if prS a = s then (a, 0) else (0, 4) := by
      unfold psV
      rw [h4]
    by_cases hEq : prS a = s
    · rw [if_pos hEq] at hps
      have hE : ((prS a).toList == s.toList) = true := by rw [hEq]; exact beq_self_eq_true _
      gi_wp2_with (refine ⟨trivial, ?_⟩; gi_at_call 7; refine (callsIn_wide.2 HP).mono ?_; rintro e w2 ⟨rfl, ⟨c6', f2, f3⟩, ⟨c2, c3⟩, b2, b3, hK', hb⟩)
      have e2 := b2.set (.int .u32 a)
      have e3 := (b3.other (B' := w.heap.size) (by omega) (.int .u32 a)).set (.int .i64 0)
      have e2' := e2.other (B' := w.heap.size + 1) (by omega) (.int .i64 0)
      have hB3 : Below w.heap.size w ((w2.setCell ⟨w.heap.size, 0, none⟩ (.int .u32 a)).setCell ⟨w.heap.size + 1, 0, none⟩ (.int .i64 0)) := ((h1.trans (hb.mono h1.size)).setCell (p := ⟨w.heap.size, 0, none⟩) (Nat.le_refl _) _).setCell (p := ⟨w.heap.size + 1, 0, none⟩) (show w.heap.size ≤ w.heap.size + 1 by omega) _
      have hK3 : ((w2.setCell ⟨w.heap.size, 0, none⟩ (.int .u32 a)).setCell ⟨w.heap.size + 1, 0, none⟩ (.int .i64 0)).heap[D]? = some (.deferred (some [])) := (Below.heap_setCell _ _ _ _ (show D ≠ w.heap.size + 1 by omega)).trans ((Below.heap_setCell _ _ _ _ (show D ≠ w.heap.size by omega)).trans hK')
      refine ⟨by simp, .inl ⟨_, _, rfl, run_takeDeferred hK3, ?_⟩⟩
      obtain ⟨⟨r1, r2⟩, r3⟩ := ps_fin e2' e3 hB3 hK3 (by omega)
      refine ⟨.tuple #[.int .u32 a, .int .i64 0], ?_, by rw [hps], r3⟩
      simp [results, Tryd.f5, go_sem, r1, r2]
    · have hE : ((prS a).toList == s.toList) = false := by
        rw [Bool.eq_false_iff]
        intro q
        exact hEq (toList_inj (eq_of_beq q))
      rw [if_neg hEq] at hps
      gi_wp2_with (refine ⟨trivial, ?_⟩; gi_at_call 7; refine (callsIn_wide.2 HP).mono ?_; rintro e w2 ⟨rfl, ⟨c6', f2, f3⟩, ⟨c2, c3⟩, b2, b3, hK', hb⟩)
      have e2 := b2.set (.int .u32 0)
      have e3 := (b3.other (B' := w.heap.size) (by omega) (.int .u32 0)).set (.int .i64 4)
      have e2' := e2.other (B' := w.heap.size + 1) (by omega) (.int .i64 4)
      have hB3 : Below w.heap.size w ((w2.setCell ⟨w.heap.size, 0, none⟩ (.int .u32 0)).setCell ⟨w.heap.size + 1, 0, none⟩ (.int .i64 4)) := ((h1.trans (hb.mono h1.size)).setCell (p := ⟨w.heap.size, 0, none⟩) (Nat.le_refl _) _).setCell (p := ⟨w.heap.size + 1, 0, none⟩) (show w.heap.size ≤ w.heap.size + 1 by omega) _
      have hK3 : ((w2.setCell ⟨w.heap.size, 0, none⟩ (.int .u32 0)).setCell ⟨w.heap.size + 1, 0, none⟩ (.int .i64 4)).heap[D]? = some (.deferred (some [])) := (Below.heap_setCell _ _ _ _ (show D ≠ w.heap.size + 1 by omega)).trans ((Below.heap_setCell _ _ _ _ (show D ≠ w.heap.size by omega)).trans hK')
      refine ⟨by simp, .inl ⟨_, _, rfl, run_takeDeferred hK3, ?_⟩⟩
      obtain ⟨⟨r1, r2⟩, r3⟩ := ps_fin e2' e3 hB3 hK3 (by omega)
      refine ⟨.tuple #[.int .u32 0, .int .i64 4], ?_, by rw [hps], r3⟩
      simp [results, Tryd.f5, go_sem, r1, r2]
  case stop =>
    rintro D pre W hD hpre ⟨h1, h2, h3, h4⟩ hK
    have hps : psV s = (0, 4) := by
      unfold psV
      rw [psAcc_none hpre h4]
    have c2 := (box_cell h2).1
    have c3 := (box_cell h3).1
    gi_wp2
    refine ⟨by simp, .inl ⟨_, _, rfl, run_takeDeferred hK, ?_⟩⟩
    obtain ⟨⟨r1, r2⟩, r3⟩ := ps_fin h2 h3 h1 hK (by omega)
    refine ⟨.tuple #[.int .u32 0, .int .i64 4], ?_, by first | rfl | rw [hps], r3⟩
    simp [results, Tryd.f5, go_sem, r1, r2]
end Go.Proofs.YtdkgekmjkindmaaDoor
