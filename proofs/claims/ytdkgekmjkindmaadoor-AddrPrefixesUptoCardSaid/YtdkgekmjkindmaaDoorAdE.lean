/- addr.ParsePrefix. -/
import Derived.Test.YtdkgekmjkindmaaDoorAdD
namespace Go.Proofs.YtdkgekmjkindmaaDoor
open Go.RowKit Go.Shelf Go.Lib
set_option linter.unusedVariables false
attribute [local go_sem] Oper.semAt_some
def cutA (s : ByteArray) : ByteArray := ⟨(Lib.cut s.data.toList slash.data.toList).1.toArray⟩
def cutB (s : ByteArray) : ByteArray := ⟨(Lib.cut s.data.toList slash.data.toList).2.1.toArray⟩
def cutC (s : ByteArray) : Bool := (Lib.cut s.data.toList slash.data.toList).2.2
/-- The result's cells. -/
def Cell2 (g : Nat) (W : World) : Prop := W.heap[g]? = some (.cells #[.int .u32 0, .int .i64 0] 29 (0, 0))
theorem Cell2.below {g : Nat} {W W' : World} (h : Cell2 g W) (hb : Below W.heap.size W W') : Cell2 g W' := (hb.block g (Array.getElem?_eq_some_iff.1 h).1).trans h
theorem Cell2.cells {g : Nat} {W : World} (h : Cell2 g W) : (W.cell? ⟨g, 0, none⟩ = some (.int .u32 0) ∧ W.cell? ⟨g, 1, none⟩ = some (.int .i64 0)) ∧ W.frozen? ⟨g, 0, none⟩ = false ∧ W.frozen? ⟨g, 1, none⟩ = false := by
  have h : W.heap[g]? = _ := h
  simp [World.cell?, World.frozen?, h, go_sem]
theorem Cell2.set {g : Nat} {W : World} (h : Cell2 g W) (a n : Int) : (((W.setCell ⟨g, 0, none⟩ (.int .u32 a)).setCell ⟨g, 1, none⟩ (.int .i64 n)).cell? ⟨g, 0, none⟩ = some (.int .u32 a) ∧ ((W.setCell ⟨g, 0, none⟩ (.int .u32 a)).setCell ⟨g, 1, none⟩ (.int .i64 n)).cell? ⟨g, 1, none⟩ = some (.int .i64 n)) := by
  have h : W.heap[g]? = _ := h
  have e : ((W.setCell ⟨g, 0, none⟩ (.int .u32 a)).setCell ⟨g, 1, none⟩ (.int .i64 n)).heap[g]? = some (.cells #[.int .u32 a, .int .i64 n] 29 (0, 0)) := by
    simp [World.setCell, Array.getElem?_modify, h]
  simp [World.cell?, e]
def pxV (s : ByteArray) : (Int × Int) × Int := match atoiAll (cutB s).data.toList with
  | .ok n => if (rfV (cutA s)).2 = 0 ∧ (ppV (rfV (cutA s)).1 n).2 = 0 ∧ (ppV (rfV (cutA s)).1 n).1 = s then (((rfV (cutA s)).1, n), 0) else ((0, 0), 4)
  | _ => ((0, 0), 4)
theorem cut_le (s : ByteArray) : (cutA s).size ≤ s.size ∧ (cutB s).size ≤ s.size := by
  rcases indexB_cases s slash with h | ⟨i, h, hle⟩
  · obtain ⟨e1, e2, _⟩ := cutB_miss s slash h
    rw [show cutA s = s from e1, show cutB s = ByteArray.empty from e2]
    exact ⟨Nat.le_refl _, Nat.zero_le _⟩
  · obtain ⟨e1, e2, _⟩ := cutB_hit s slash i h
    rw [show cutA s = _ from e1, show cutB s = _ from e2]
    exact ⟨extract_le _ _ _, extract_le _ _ _⟩
set_option maxRecDepth 100000 in
set_option maxHeartbeats 4000000 in
theorem px_in (s : ByteArray) (hs : s.size < 4294967281) {w : World} (hw : LibW w) : CallsIn Fence.wide 3 Tryd.prog 9 #[.string s] w fun e w' => e = .returned (qfR (pxV s)) ∧ Below w.heap.size w w' := by
  obtain ⟨la, lb⟩ := cut_le s
  have h8 := hw.size
  have HC : ∀ W, Below w.heap.size w W → Cell2 w.heap.size W → Calls Tryd.prog 25 #[.string s, .string slash] W fun e w' => e = .returned (.tuple #[.string (cutA s), .string (cutB s), .bool (cutC s)]) ∧ Below w.heap.size w w' ∧ Cell2 w.heap.size w' := fun W h1 h2 =>
    (cut_calls (hw.below h8 h1) s slash hs).mono fun e w' ⟨he, hb⟩ => ⟨he, h1.trans (hb.mono h1.size), h2.below hb⟩
  have HP : ∀ W, Below w.heap.size w W → Cell2 w.heap.size W → Calls Tryd.prog 5 #[.string (cutA s)] W fun e w' => e = .returned (.tuple #[.int .u32 (rfV (cutA s)).1, .int .i64 (rfV (cutA s)).2]) ∧ Below w.heap.size w w' ∧ Cell2 w.heap.size w' := fun W h1 h2 =>
    (parse_calls (cutA s) (by omega) (hw.below h8 h1)).mono fun e w' ⟨he, hb⟩ => ⟨by rw [← ps_rf]; exact he, h1.trans (hb.mono h1.size), h2.below hb⟩
  obtain ⟨⟨x0, x1⟩, _⟩ := rf_rng (cutA s)
  have HA : ∀ W, Below w.heap.size w W → Cell2 w.heap.size W → Calls Tryd.prog 26 #[.string (cutB s)] W fun e w' => ∃ u v, e = .returned (.tuple #[.int .i64 u, v]) ∧ (-9223372036854775808 ≤ u ∧ u ≤ 9223372036854775807) ∧ (match atoiAll (cutB s).data.toList with
      | .ok n => u = n ∧ v = .nilIface
      | _ => ∃ t p, v = .iface t p) ∧ Below w.heap.size w w' ∧ Cell2 w.heap.size w' := fun W h1 h2 =>
    (atoi_calls (hw.below h8 h1) (cutB s) (by omega)).mono fun e w' ⟨⟨u, v, he, hu, hv⟩, hb⟩ => ⟨u, v, he, hu, hv, h1.trans (hb.mono h1.size), h2.below hb⟩
  have HQ : ∀ W n, Below w.heap.size w W → Cell2 w.heap.size W → -9223372036854775808 ≤ n → n ≤ 9223372036854775807 → Calls Tryd.prog 11 #[pfV (rfV (cutA s)).1 n] W fun e w' => e = .returned (.tuple #[.string (ppV (rfV (cutA s)).1 n).1, .int .i64 (ppV (rfV (cutA s)).1 n).2]) ∧ Below w.heap.size w w' ∧ Cell2 w.heap.size w' ∧ (∀ (i : Nat) (o : Obj), W.heap[i]? = some o → w'.heap[i]? = some o) := fun W n h1 h2 n0 n1 =>
    (pp_calls x0 x1 n0 n1 (hw.below h8 h1)).mono fun e w' ⟨he, hb⟩ => ⟨he, h1.trans (hb.mono h1.size), h2.below hb, fun i o ho => (hb.block i (Array.getElem?_eq_some_iff.1 ho).1).trans ho⟩
  have hV : pxV s = match atoiAll (cutB s).data.toList with
    | .ok n => if (rfV (cutA s)).2 = 0 ∧ (ppV (rfV (cutA s)).1 n).2 = 0 ∧ (ppV (rfV (cutA s)).1 n).1 = s then (((rfV (cutA s)).1, n), 0) else ((0, 0), 4)
    | _ => ((0, 0), 4) := rfl
  generalize pxV s = V at hV ⊢
  generalize cutA s = A at HC HP HQ hV
  generalize cutB s = Bs at HC HA hV
  generalize cutC s = Cs at HC
  generalize (rfV A).1 = x at HP HQ hV
  generalize (rfV A).2 = ee at HP hV
  refine callsIn_of_wp Tryd.func9 rfl trivial ?_ rfl
  simp only [Tryd.ntmps9, List.size_toArray, List.length_cons, List.length_nil, Nat.reduceAdd, Nat.reduceSub, Array.replicate_succ, Array.replicate_zero, List.push_toArray, List.append_toArray, List.nil_append, List.cons_append]
  have hz0 : Below w.heap.size w (w.alloc (.cells #[.int .u32 0, .int .i64 0] 29)) := (Below.refl _ w).alloc (Nat.le_refl _) _
  have hc0 : Cell2 w.heap.size (w.alloc (.cells #[.int .u32 0, .int .i64 0] 29)) := World.alloc_heap_new w _
  have HC := HC _ hz0 hc0
  gi_wp2_with (refine ⟨trivial, ?_⟩; gi_at_call 25; refine (callsIn_wide.2 HC).mono ?_; rintro e w2 ⟨rfl, hb2, hc2⟩)
  refine ⟨trivial, ?_⟩
  refine (callsIn_wide.2 (HA w2 hb2 hc2)).mono ?_
  rintro e w3 ⟨u, v, rfl, ⟨u0, u1⟩, hv, hb3, hc3⟩
  clear HA HC hc0 hz0 la lb x0 x1
  have HP := HP w3 hb3 hc3
  gi_wp2_with (refine ⟨trivial, ?_⟩; gi_at_call 5; refine (callsIn_wide.2 HP).mono ?_; rintro e w4 ⟨rfl, hb4, hc4⟩)
  refine ⟨trivial, ?_⟩
  refine (callsIn_wide.2 (HQ _ u (hb4.alloc hb4.size _) (hc4.below ((Below.refl _ w4).alloc (Nat.le_refl _) _)) u0 u1)).mono ?_
  rintro e w6 ⟨rfl, hb6, hc6, hk6⟩
  have hp6 : w6.heap[w4.heap.size]? = some (.cells #[.int .u32 x, .int .i64 u] 29 (0, 0)) := hk6 _ _ (World.alloc_heap_new w4 _)
  have p0 : w6.cell? ⟨w4.heap.size, 0, none⟩ = some (.int .u32 x) := by simp [World.cell?, hp6]
  have p1 : w6.cell? ⟨w4.heap.size, 1, none⟩ = some (.int .i64 u) := by simp [World.cell?, hp6]
  obtain ⟨⟨r0, r1⟩, z0, z1⟩ := hc6.cells
  have hend : ∀ (a n : Int), Below w.heap.size w ((w6.setCell ⟨w.heap.size, 0, none⟩ (.int .u32 a)).setCell ⟨w.heap.size, 1, none⟩ (.int .i64 n)) := fun a n => (hb6.setCell (p := ⟨w.heap.size, 0, none⟩) (Nat.le_refl _) _).setCell (p := ⟨w.heap.size, 1, none⟩) (Nat.le_refl _) _
  have hset := fun a n => hc6.set a n
  clear HQ HP hk6 hp6
  generalize hag : (ppV x u).1 = ag at *
  generalize hf : (ppV x u).2 = f at *
  have bad : V = ((0, 0), 4) → ∀ {e : Ending}, e = .returned (qfR ((0, 0), 4)) → e = .returned (qfR V) := fun h e he => by rw [h]; exact he
  cases q : atoiAll Bs.data.toList with
  | ok n =>
    rw [q] at hv hV
    obtain ⟨rfl, rfl⟩ := hv
    clear q
    simp only [hag, hf] at hV
    clear hag hf
    by_cases h1 : ee = 0
    · have t1 : (ee != 0) = false := by simpa using h1
      by_cases h2 : f = 0
      · have t2 : (f != 0) = false := by simpa using h2
        by_cases h3 : ag = s
        · have t3 : (ag.toList == s.toList) = true := by rw [h3]; exact beq_self_eq_true _
          have hV' : V = ((x, u), 0) := hV.trans (if_pos ⟨h1, h2, h3⟩)
          clear hV bad
          obtain ⟨s0, s1⟩ := hset x u
          have hend := hend x u
          clear hset h1 h2 h3
          gi_wp2
          refine bodyPost_ret (v := qfR ((x, u), 0)) ?_ rfl ⟨by rw [hV'], hend⟩
          simp [results, Tryd.f9, go_sem, s0, s1, qfR, pfV]
        · have t3 : (ag.toList == s.toList) = false := by
            rw [Bool.eq_false_iff]
            intro q
            exact h3 (toList_inj (eq_of_beq q))
          have hV' : V = ((0, 0), 4) := hV.trans (if_neg fun q => h3 q.2.2)
          clear hV
          obtain ⟨s0, s1⟩ := hset 0 0
          have hend := hend 0 0
          clear hset h1 h2 h3
          gi_wp2
          refine bodyPost_ret (v := qfR ((0, 0), 4)) ?_ rfl ⟨by rw [hV'], hend⟩
          simp [results, Tryd.f9, go_sem, s0, s1, qfR, pfV]
      · have t2 : (f != 0) = true := by simpa using h2
        have hV' : V = ((0, 0), 4) := hV.trans (if_neg fun q => h2 q.2.1)
        clear hV
        obtain ⟨s0, s1⟩ := hset 0 0
        have hend := hend 0 0
        clear hset h1 h2
        gi_wp2
        refine bodyPost_ret (v := qfR ((0, 0), 4)) ?_ rfl ⟨by rw [hV'], hend⟩
        simp [results, Tryd.f9, go_sem, s0, s1, qfR, pfV]
    · have t1 : (ee != 0) = true := by simpa using h1
      have hV' : V = ((0, 0), 4) := hV.trans (if_neg fun q => h1 q.1)
      clear hV
      obtain ⟨s0, s1⟩ := hset 0 0
      have hend := hend 0 0
      clear hset h1
      gi_wp2
      refine bodyPost_ret (v := qfR ((0, 0), 4)) ?_ rfl ⟨by rw [hV'], hend⟩
      simp [results, Tryd.f9, go_sem, s0, s1, qfR, pfV]
  | range =>
    rw [q] at hv hV
    obtain ⟨t, p, rfl⟩ := hv
    obtain ⟨s0, s1⟩ := hset 0 0
    have hend := hend 0 0
    clear q hset bad
    gi_wp2
    refine bodyPost_ret (v := qfR ((0, 0), 4)) ?_ rfl ⟨by rw [hV], hend⟩
    simp [results, Tryd.f9, go_sem, s0, s1, qfR, pfV]
  | _ =>
    rw [q] at hv hV
    obtain ⟨t, p, rfl⟩ := hv
    obtain ⟨s0, s1⟩ := hset 0 0
    have hend := hend 0 0
    clear q hset bad
    gi_wp2
    refine bodyPost_ret (v := qfR ((0, 0), 4)) ?_ rfl ⟨by rw [hV], hend⟩
    simp [results, Tryd.f9, go_sem, s0, s1, qfR, pfV]
end Go.Proofs.YtdkgekmjkindmaaDoor
