/- The law CookieMakes: its walk. -/
import Derived.Test.YtmbjinfeinhalaaCookieMakeR
import Derived.Test.YtmbjinfeinhalaaLawLift
namespace Go.Proofs.Ytmbjinfeinhalaa
open Go.RowKit
set_option linter.unusedVariables false

def endLeaves : List Leaf := [(some (some .u32)), (some (some .i64))]
theorem end_open {l : List Value} (h : leafAll endLeaves l) : ∃ (a : Int) (p : Int), l = endC a p ∧ (0 ≤ a ∧ a ≤ 4294967295) ∧ (-9223372036854775808 ≤ p ∧ p ≤ 9223372036854775807) := by
  unfold endLeaves at h
  rcases l with _ | ⟨v0, l⟩
  · exact h.elim
  obtain ⟨h0, h⟩ := h
  obtain ⟨a, rfl, w0⟩ := h0
  have b0 := bounds_u32 w0
  rcases l with _ | ⟨v1, l⟩
  · exact h.elim
  obtain ⟨h1, h⟩ := h
  obtain ⟨p, rfl, w1⟩ := h1
  have b1 := bounds_i64 w1
  rcases l with _ | ⟨v, l⟩
  · exact ⟨a, p, rfl, b0, b1⟩
  · exact h.elim

theorem cookie_New (k0 k1 : Int) (w : World) : Calls Try.prog 76 #[.int .u64 k0, .int .u64 k1] w fun e w' => e = .returned (.pointer (some ⟨w.heap.size, 0, none⟩)) ∧ w.alloc (.cells (keyC k0 k1).toArray 174) = w' := by
  go_enter Try.func76, Try.ntmps76
  go_wp2
  go_ret
  exact ⟨rfl, rfl⟩

theorem make_both (k0 k1 fa fp ta tp irs mss now : Int) (a1 : 0 ≤ fa) (a2 : fa ≤ 4294967295) (b1 : 0 ≤ ta) (b2 : ta ≤ 4294967295)
    (a3 : -9223372036854775808 ≤ fp) (a4 : fp ≤ 9223372036854775807) (b3 : -9223372036854775808 ≤ tp) (b4 : tp ≤ 9223372036854775807) (h2 : 0 ≤ irs) (h2' : irs ≤ 4294967295) :
    ∃ v er : Int, (∀ g w, Blk w g 174 (keyC k0 k1) → Calls Try.prog 77 #[.pointer (some ⟨g, 0, none⟩), .agg (endC fa fp).toArray, .agg (endC ta tp).toArray, .int .u32 irs, .int .i64 mss, .int .i64 now] w fun e w' =>
        e = .returned (.tuple #[.int .u32 v, .int .i64 er]) ∧ Below w.heap.size w w') ∧
      (∀ w, Calls Try.prog 78 #[.agg (keyC k0 k1).toArray, .agg (endC fa fp).toArray, .agg (endC ta tp).toArray, .int .u32 irs, .int .i64 mss, .int .i64 now] w fun e w' =>
        e = .returned (.tuple #[.int .u32 v, .int .i64 er]) ∧ Below w.heap.size w w') := by
  by_cases h : outB now 1099511627776 = true ∨ mss < 8
  · exact ⟨0, 1, fun g w _ => cookie_Make_no g fa fp ta tp irs mss now w h, fun w => ref_CkMake_no k0 k1 fa fp ta tp irs mss now w h⟩
  · have hn : outB now 1099511627776 = false := by
      cases hb : outB now 1099511627776
      · rfl
      · exact absurd (.inl hb) h
    have hn2 := outB_false hn
    have hm : 8 ≤ mss := by
      rcases Int.lt_or_le mss 8 with h8 | h8
      · exact absurd (.inr h8) h
      · exact h8
    exact ⟨_, _, fun g w hK => cookie_Make g k0 k1 fa fp ta tp irs mss now w hK a1 a2 b1 b2 h2 h2' hm hn2.1 hn2.2, fun w => ref_CkMake k0 k1 fa fp ta tp irs mss now w a1 a2 b1 b2 a3 a4 b3 b4 h2 h2' hm hn2.1 hn2.2⟩

set_option maxRecDepth 100000 in
set_option maxHeartbeats 1000000 in
theorem walk_cookieMakes (w : World) (k0 k1 : Int) (c d : Array Value) (irs mss now : Int) (_ : 0 ≤ k0) (_ : k0 ≤ 18446744073709551615) (_ : 0 ≤ k1) (_ : k1 ≤ 18446744073709551615) (lc : leafAll endLeaves c.toList) (ld : leafAll endLeaves d.toList)
    (h2 : 0 ≤ irs) (h2' : irs ≤ 4294967295) (_ : -9223372036854775808 ≤ mss) (_ : mss ≤ 9223372036854775807) (_ : -9223372036854775808 ≤ now) (_ : now ≤ 9223372036854775807) :
    Calls Try.prog 11 #[.int .u64 k0, .int .u64 k1, .agg c, .agg d, .int .u32 irs, .int .i64 mss, .int .i64 now] w fun e w' => e = .returned (.bool true) ∧ Below w.heap.size w w' := by
  obtain ⟨c⟩ := c
  obtain ⟨d⟩ := d
  obtain ⟨fa, fp, rfl, ⟨a1, a2⟩, ⟨a3, a4⟩⟩ := end_open lc
  obtain ⟨ta, tp, rfl, ⟨b1, b2⟩, ⟨b3, b4⟩⟩ := end_open ld
  obtain ⟨v, er, c1, c2⟩ := make_both k0 k1 fa fp ta tp irs mss now a1 a2 b1 b2 a3 a4 b3 b4 h2 h2'
  have H1 := Lib.hid c1
  have H2 := Lib.hid c2
  clear c1 c2 lc ld
  have HNEW := Lib.hid (fun w => cookie_New k0 k1 w)
  unfold endC at *
  go_enter Try.func11, Try.ntmps11
  go_wp2_with fail
  refine (HNEW.out _).mono ?_
  rintro e w1 ⟨rfl, rfl⟩
  have hB := three_boxes w [Value.int IntKind.u32 fa, Value.int IntKind.i64 fp] [Value.int IntKind.u32 ta, Value.int IntKind.i64 tp] (keyC k0 k1) 31 31 174
  unfold keyC at *
  obtain ⟨hK0, hK1, hK2, hO⟩ := hB
  have hz : (((w.alloc (Obj.cells [Value.int IntKind.u32 fa, Value.int IntKind.i64 fp].toArray 31)).alloc (Obj.cells [Value.int IntKind.u32 ta, Value.int IntKind.i64 tp].toArray 31)).alloc (Obj.cells [Value.int IntKind.u64 k0, Value.int IntKind.u64 k1].toArray 174)).heap.size = w.heap.size + 1 + 1 + 1 := by simp
  have hK3 : Blk ((((w.alloc (Obj.cells [Value.int IntKind.u32 fa, Value.int IntKind.i64 fp].toArray 31)).alloc (Obj.cells [Value.int IntKind.u32 ta, Value.int IntKind.i64 tp].toArray 31)).alloc (Obj.cells [Value.int IntKind.u64 k0, Value.int IntKind.u64 k1].toArray 174)).alloc (Obj.cells [Value.int IntKind.u64 k0, Value.int IntKind.u64 k1].toArray 96)) (w.heap.size + 1 + 1 + 1) 96 [Value.int IntKind.u64 k0, Value.int IntKind.u64 k1] := by
    have h := Blk.new (((w.alloc (Obj.cells [Value.int IntKind.u32 fa, Value.int IntKind.i64 fp].toArray 31)).alloc (Obj.cells [Value.int IntKind.u32 ta, Value.int IntKind.i64 tp].toArray 31)).alloc (Obj.cells [Value.int IntKind.u64 k0, Value.int IntKind.u64 k1].toArray 174)) 96 [Value.int IntKind.u64 k0, Value.int IntKind.u64 k1]
    rwa [hz] at h
  have hK0 := hK0.alloc (Obj.cells [Value.int IntKind.u64 k0, Value.int IntKind.u64 k1].toArray 96)
  have hK1 := hK1.alloc (Obj.cells [Value.int IntKind.u64 k0, Value.int IntKind.u64 k1].toArray 96)
  have hK2 := hK2.alloc (Obj.cells [Value.int IntKind.u64 k0, Value.int IntKind.u64 k1].toArray 96)
  have hO := hO.trans (below_alloc (B := w.heap.size) (Obj.cells [Value.int IntKind.u64 k0, Value.int IntKind.u64 k1].toArray 96) hO.size)
  have HK0 := Lib.hid hK0
  have HK1 := Lib.hid hK1
  have HK2 := Lib.hid hK2
  have HK3 := Lib.hid hK3
  have HO := Lib.hid hO
  clear hK0 hK1 hK2 hK3 hO hz
  go_wp2_with fail
  refine (H1.out _ _ HK2.out).mono ?_
  rintro e w5 ⟨rfl, hb5⟩
  have hL0 := HK0.out.below hb5 HK0.out.lt
  have hL1 := HK1.out.below hb5 HK1.out.lt
  have hL3 := HK3.out.below hb5 HK3.out.lt
  have HO5 := Lib.hid (HO.out.trans (hb5.mono HO.out.size))
  have q0 := hL0.at_ (i := 0) (v := .int .u32 fa) rfl
  have q1 := hL0.at_ (i := 1) (v := .int .i64 fp) rfl
  have q2 := hL1.at_ (i := 0) (v := .int .u32 ta) rfl
  have q3 := hL1.at_ (i := 1) (v := .int .i64 tp) rfl
  have q4 := hL3.at_ (i := 0) (v := .int .u64 k0) rfl
  have q5 := hL3.at_ (i := 1) (v := .int .u64 k1) rfl
  clear hL0 hL1 hL3 hb5 HK0 HK1 HK2 HK3 HO H1 HNEW
  go_wp2_with fail
  refine (H2.out _).mono ?_
  rintro e w6 ⟨rfl, hb6⟩
  have HO6 := Lib.hid (HO5.out.trans (hb6.mono HO5.out.size))
  clear hb6
  go_wp2
  go_ret
  exact ⟨by simp, HO6.out⟩
end Go.Proofs.Ytmbjinfeinhalaa
