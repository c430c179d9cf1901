/- The law HashPairs: its walk. -/
import Derived.Test.YtmbjinfeinhalaaHashPair
import Derived.Test.YtmbjinfeinhalaaLawLift
namespace Go.Proofs.Ytmbjinfeinhalaa
open Go.RowKit
set_option linter.unusedVariables false

def endLeaves : List Leaf := [(some (some .u32)), (some (some .i64))]
theorem end_open {l : List Value} (h : leafAll endLeaves l) : ∃ (a : Int) (p : Int), l = endC a p ∧ (0 ≤ a ∧ a ≤ 4294967295) ∧ (-9223372036854775808 ≤ p ∧ p ≤ 9223372036854775807) := by
  unfold endLeaves at h
  rcases l with _ | ⟨v0, l⟩
  · exact h.elim
  obtain ⟨h0, h⟩ := h
  obtain ⟨a, rfl, w0⟩ := h0
  have b0 := bounds_u32 w0
  rcases l with _ | ⟨v1, l⟩
  · exact h.elim
  obtain ⟨h1, h⟩ := h
  obtain ⟨p, rfl, w1⟩ := h1
  have b1 := bounds_i64 w1
  rcases l with _ | ⟨v, l⟩
  · exact ⟨a, p, rfl, b0, b1⟩
  · exact h.elim

set_option maxRecDepth 100000 in
theorem walk_hashPairs (w : World) (k0 k1 : Int) (c d : Array Value) (_ : 0 ≤ k0) (_ : k0 ≤ 18446744073709551615) (_ : 0 ≤ k1) (_ : k1 ≤ 18446744073709551615) (lc : leafAll endLeaves c.toList) (ld : leafAll endLeaves d.toList) :
    Calls Try.prog 6 #[.int .u64 k0, .int .u64 k1, .agg c, .agg d] w fun e w' => e = .returned (.bool true) ∧ Below w.heap.size w w' := by
  obtain ⟨c⟩ := c
  obtain ⟨d⟩ := d
  obtain ⟨fa, fp, rfl, ⟨a1, a2⟩, ⟨a3, a4⟩⟩ := end_open lc
  obtain ⟨ta, tp, rfl, ⟨b1, b2⟩, ⟨b3, b4⟩⟩ := end_open ld
  have c1 := fun w => hash_Pair k0 k1 fa fp ta tp w a1 a2 b1 b2
  have c2 := fun w => ref_HashPair k0 k1 fa fp ta tp w a1 a2 b1 b2 a3 a4 b3 b4
  generalize sipF k0 k1 (pairL fa fp ta tp) = r at c1 c2
  have H1 := Lib.hid c1
  have H2 := Lib.hid c2
  clear c1 c2 lc ld
  unfold endC at *
  go_enter Try.func6, Try.ntmps6
  go_wp2_with fail
  have hK0 : Blk ((w.alloc (Obj.cells #[Value.int IntKind.u32 fa, Value.int IntKind.i64 fp] 31)).alloc (Obj.cells #[Value.int IntKind.u32 ta, Value.int IntKind.i64 tp] 31)) w.heap.size 31 [Value.int IntKind.u32 fa, Value.int IntKind.i64 fp] := (Blk.new w _ _).alloc _
  have hK1 : Blk ((w.alloc (Obj.cells #[Value.int IntKind.u32 fa, Value.int IntKind.i64 fp] 31)).alloc (Obj.cells #[Value.int IntKind.u32 ta, Value.int IntKind.i64 tp] 31)) (w.heap.size + 1) 31 [Value.int IntKind.u32 ta, Value.int IntKind.i64 tp] := by
    have h := Blk.new (w.alloc (Obj.cells #[Value.int IntKind.u32 fa, Value.int IntKind.i64 fp] 31)) 31 [Value.int IntKind.u32 ta, Value.int IntKind.i64 tp]
    simp only [World.size_alloc] at h
    exact h
  have hO : Below w.heap.size w ((w.alloc (Obj.cells #[Value.int IntKind.u32 fa, Value.int IntKind.i64 fp] 31)).alloc (Obj.cells #[Value.int IntKind.u32 ta, Value.int IntKind.i64 tp] 31)) := by go_grown
  generalize (w.alloc (Obj.cells #[Value.int IntKind.u32 fa, Value.int IntKind.i64 fp] 31)).alloc (Obj.cells #[Value.int IntKind.u32 ta, Value.int IntKind.i64 tp] 31) = w1 at hK0 hK1 hO ⊢
  have q0 := Kin.cell (hK0.at_ (i := 0) (v := .int .u32 fa) rfl)
  have q1 := Kin.cell (hK0.at_ (i := 1) (v := .int .i64 fp) rfl)
  have q2 := Kin.cell (hK1.at_ (i := 0) (v := .int .u32 ta) rfl)
  have q3 := Kin.cell (hK1.at_ (i := 1) (v := .int .i64 tp) rfl)
  have HO := Lib.hid hO
  clear hK0 hK1 hO
  refine wp_region_kin (by kernel_rfl) (by kernel_rfl) ?_
  repeat go_big_quiet_step ((first
    | (go_at_call 38; exact kin_made (H1.out _))
    | (go_at_call 39; exact kin_made (H2.out _))))
  refine wpQuiet_nil ?_
  intro q
  have hO2 := HO.out.trans (q.below.mono HO.out.size)
  clear q0 q1 q2 q3
  generalize q.at_ = w2 at hO2 ⊢
  go_wp2
  go_ret
  exact ⟨by simp, hO2⟩
end Go.Proofs.Ytmbjinfeinhalaa
