/- strings.SplitSeq at the dot: the iterator, its contract. -/
import Derived.Test.YtdkgekmjkindmaaDoorAd2
namespace Go.Proofs.YtdkgekmjkindmaaDoor
open Go.RowKit Go.Shelf Go.Lib
set_option linter.unusedVariables false
attribute [local go_sem] Oper.semAt_some
def pieces (s : ByteArray) : List ByteArray := splitB dot 0 (countB s dot) s
theorem pieces_miss {s : ByteArray} (h : indexB s dot = -1) : pieces s = [s] := splitB_miss _ _ _ _ h
theorem pieces_hit {s : ByteArray} {i : Nat} (h : indexB s dot = i) : pieces s = s.extract 0 i :: pieces (s.extract (i + 1) s.size) := by
  unfold pieces
  rw [countB_hit s dot i (by decide) h, Nat.add_comm, splitB_hit _ _ _ _ _ h]
  rfl
theorem extract_le (s : ByteArray) (a b : Nat) : (s.extract a b).size ≤ s.size := by
  rw [ByteArray.size_extract]; omega
/-- A box's cell. -/
theorem box_cell {W : World} {b : Nat} {t : TypeId} {v : Value} (h : Boxed W b t v) : W.cell? ⟨b, 0, none⟩ = some v ∧ W.frozen? ⟨b, 0, none⟩ = false := by
  have h : W.heap[b]? = _ := h
  simp [World.cell?, World.frozen?, h, go_sem]
/-- How much of the string is left. -/
def leftB (m : Nat) (w : World) : Nat := match w.cell? ⟨m, 0, none⟩ with | some (.string x) => x.size | _ => 0
theorem leftB_eq {m : Nat} {w : World} {x : ByteArray} (h : w.cell? ⟨m, 0, none⟩ = some (.string x)) : leftB m w = x.size := by
  unfold leftB; rw [h]
set_option maxRecDepth 100000 in
set_option maxHeartbeats 2000000 in
theorem seq_in (n l m : Nat) (hn : 1 ≤ n) (s : ByteArray) (hs : s.size < 4294967281) (J Jx : List ByteArray → World → Prop)
    (hL : ∀ pre A, J pre A → LibW A) (hJ : ∀ pre A B, J pre A → Only (fun i => m ≤ i ∧ i < m + 3) A B → J pre B)
    (hY : ∀ pre x W1, J pre W1 → x.size < 4294967281 → YieldAt Fence.wide (n - 1) Tryd.prog l #[.string x] W1 fun e W' =>
      (e = .returned (.bool true) ∧ J (pre ++ [x]) W' ∧ Kept m (m + 3) W1 W') ∨ (e = .returned (.bool false) ∧ Jx (pre ++ [x]) W'))
    (W : World) (b0 : Boxed W m 9 (.string s)) (b1 : Boxed W (m + 1) 9 (.string dot)) (b2 : Boxed W (m + 2) 3 (.int .i64 0)) (h0 : J [] W) :
    CallsIn Fence.wide n Tryd.prog 42 #[.func (.yield l) #[] #[], .pointer (some ⟨m + 1, 0, none⟩), .pointer (some ⟨m, 0, none⟩), .pointer (some ⟨m + 2, 0, none⟩)] W fun e W' => (∃ v, e = .returned v) ∧
      ((∃ xs, xs = pieces s ∧ J xs W') ∨ (∃ pre, pre <+: pieces s ∧ Jx pre W')) := by
  refine callsIn_of_wp Tryd.func42 rfl trivial ?_ rfl
  simp only [Tryd.ntmps42, List.size_toArray, List.length_cons, List.length_nil, Nat.reduceAdd, Nat.reduceSub, Array.replicate_succ, Array.replicate_zero, List.push_toArray, List.append_toArray, List.nil_append, List.cons_append]
  obtain ⟨c0, f0⟩ := box_cell b0
  obtain ⟨c1, f1⟩ := box_cell b1
  obtain ⟨c2, f2⟩ := box_cell b2
  have hd : dot.size = 1 := rfl
  gi_wp2
  gi_loopw [7] (fun _ wr => ∃ (pre : List ByteArray) (cur : ByteArray), pieces s = pre ++ pieces cur ∧ cur.size < 4294967281 ∧ Boxed wr m 9 (.string cur) ∧ Boxed wr (m + 1) 9 (.string dot) ∧ Boxed wr (m + 2) 3 (.int .i64 0) ∧ J pre wr) (fun _ wr => leftB m wr)
  case atStart => exact ⟨[], s, rfl, hs, b0, b1, b2, h0⟩
  case round =>
    clear b0 b1 b2 c0 c1 c2 f0 f1 f2
    obtain ⟨pre, cur, hp, hs, b0, b1, b2, hj⟩ := hrel
    obtain ⟨c0, f0⟩ := box_cell b0
    obtain ⟨c1, f1⟩ := box_cell b1
    obtain ⟨c2, f2⟩ := box_cell b2
    have HL := hL _ _ hj
    rcases indexB_cases cur dot with hi | ⟨i, hi, hle⟩
    · rw [pieces_miss hi] at hp
      have HI := index_calls HL cur hs
      rw [hi] at HI
      clear hi
      obtain ⟨fn, tmps, assign, body, hy, hR⟩ := hY pre cur wr hj hs
      gi_wp2_with (refine ⟨trivial, ?_⟩; gi_at_call 44; refine (callsIn_wide.2 HI).mono ?_; rintro e w' ⟨rfl, rfl⟩)
      refine hR.mono ?_
      rintro e W' (⟨rfl, hJ', hk⟩ | ⟨rfl, hJx'⟩)
      · gi_wp2
        go_end0
        exact ⟨⟨_, rfl⟩, .inl ⟨_, hp.symm, hJ'⟩⟩
      · gi_wp2
        go_end0
        exact ⟨⟨_, rfl⟩, .inr ⟨_, by rw [hp]; exact List.prefix_refl _, hJx'⟩⟩
    · have hle' := hle
      rw [hd] at hle
      rw [pieces_hit hi] at hp
      have hne : (decide ((i : Int) < 0)) = false := decide_eq_false (by omega)
      have HI := index_calls HL cur hs
      rw [hi] at HI
      obtain ⟨fn, tmps, assign, body, hy, hR⟩ := hY pre (cur.extract 0 i) wr hj (Nat.lt_of_le_of_lt (extract_le _ _ _) hs)
      clear hi
      gi_wp2_with (refine ⟨trivial, ?_⟩; gi_at_call 44; refine (callsIn_wide.2 HI).mono ?_; rintro e w' ⟨rfl, rfl⟩)
      refine hR.mono ?_
      rintro e W' (⟨rfl, hJ', hk⟩ | ⟨rfl, hJx'⟩)
      · have k0 : Boxed W' m 9 (.string cur) := (hk m (by omega) (by omega)).trans b0
        have k1 : Boxed W' (m + 1) 9 (.string dot) := (hk (m + 1) (by omega) (by omega)).trans b1
        have k2 : Boxed W' (m + 2) 3 (.int .i64 0) := (hk (m + 2) (by omega) (by omega)).trans b2
        have b0' := b0
        clear b0 b1 b2 c0 c1 c2 f0 f1 f2 HI
        obtain ⟨c0, f0⟩ := box_cell k0
        obtain ⟨c1, f1⟩ := box_cell k1
        have hz : cur.size ≠ 0 := by omega
        have hm := leftB_eq (box_cell b0').1
        clear b0'
        gi_wp2
        go_roundw
        case rel =>
          refine ⟨pre ++ [cur.extract 0 i], cur.extract (i + 1) cur.size, by rw [hp]; simp, Nat.lt_of_le_of_lt (extract_le _ _ _) hs, k0.set _, k1.other (by omega) _, k2.other (by omega) _, ?_⟩
          exact hJ _ _ _ hJ' ((Only.refl _ _).setCell (p := ⟨m, 0, none⟩) (.inl ⟨Nat.le_refl _, show m < m + 3 by omega⟩) _)
        case measure =>
          rw [hm, leftB_eq (box_cell (k0.set _)).1, ByteArray.size_extract]
          omega
      · gi_wp2
        refine bodyPost_ret (results_none rfl _ _ _) rfl ?_
        exact ⟨⟨_, rfl⟩, .inr ⟨pre ++ [cur.extract 0 i], by rw [hp]; exact ⟨_, by simp; rfl⟩, hJx'⟩⟩
/-- THE CONTRACT. -/
theorem seq_stops (n m : Nat) (hn : 1 ≤ n) (s : ByteArray) (hs : s.size < 4294967281) (w : World)
    (b0 : Boxed w m 9 (.string s)) (b1 : Boxed w (m + 1) 9 (.string dot)) (b2 : Boxed w (m + 2) 3 (.int .i64 0)) :
    SeqB Fence.wide n Tryd.prog 42 #[.pointer (some ⟨m + 1, 0, none⟩), .pointer (some ⟨m, 0, none⟩), .pointer (some ⟨m + 2, 0, none⟩)] (fun x : ByteArray => #[.string x]) m (m + 3)
      (fun x => x.size < 4294967281) LibW (fun xs => xs = pieces s) (fun pre => pre <+: pieces s) w := by
  intro l J Jx W hb hL hJ hY h0
  exact seq_in n l m hn s hs J Jx hL hJ hY W ((hb.block m (by omega)).trans b0) ((hb.block (m + 1) (by omega)).trans b1) ((hb.block (m + 2) (by omega)).trans b2) h0
set_option maxRecDepth 100000 in
theorem split_in (n : Nat) (s : ByteArray) (w : World) : CallsIn Fence.wide n Tryd.prog 30 #[.string s, .string dot, .int .i64 0] w fun e w' =>
    e = .returned (.func (.func 42) #[] #[.pointer (some ⟨w.heap.size + 1, 0, none⟩), .pointer (some ⟨w.heap.size, 0, none⟩), .pointer (some ⟨w.heap.size + 2, 0, none⟩)]) ∧
    w' = ((w.alloc (.cells #[.string s] 9)).alloc (.cells #[.string dot] 9)).alloc (.cells #[.int .i64 0] 3) := by
  refine callsIn_of_wp Tryd.func30 rfl trivial ?_ rfl
  simp only [Tryd.ntmps30, List.size_toArray, List.length_cons, List.length_nil, Nat.reduceAdd, Nat.reduceSub, Array.replicate_succ, Array.replicate_zero, List.push_toArray, List.append_toArray, List.nil_append, List.cons_append]
  gi_wp2
  exact bodyPost_ret (results_tmp rfl _ _ _) rfl ⟨rfl, rfl⟩
/-- strings.SplitSeq: three boxes, and the iterator over them. -/
theorem seq_calls (n : Nat) (hn : 1 ≤ n) (s : ByteArray) (w : World) : CallsIn Fence.wide n Tryd.prog 17 #[.string s, .string dot] w fun e w' =>
    e = .returned (.func (.func 42) #[] #[.pointer (some ⟨w.heap.size + 1, 0, none⟩), .pointer (some ⟨w.heap.size, 0, none⟩), .pointer (some ⟨w.heap.size + 2, 0, none⟩)]) ∧
    w' = ((w.alloc (.cells #[.string s] 9)).alloc (.cells #[.string dot] 9)).alloc (.cells #[.int .i64 0] 3) := by
  refine callsIn_of_wp Tryd.func17 rfl trivial ?_ rfl
  simp only [Tryd.ntmps17, List.size_toArray, List.length_cons, List.length_nil, Nat.reduceAdd, Nat.reduceSub, Array.replicate_succ, Array.replicate_zero, List.push_toArray, List.append_toArray, List.nil_append, List.cons_append]
  have HI := split_in (n - 1) s w
  gi_wp2_with (refine ⟨trivial, ?_⟩; gi_at_call 30; refine HI.mono ?_; rintro e w' ⟨rfl, rfl⟩)
  exact bodyPost_ret (results_tmp rfl _ _ _) rfl ⟨rfl, rfl⟩
end Go.Proofs.YtdkgekmjkindmaaDoor
