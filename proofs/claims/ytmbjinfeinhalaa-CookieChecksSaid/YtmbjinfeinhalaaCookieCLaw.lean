/- The law CookieChecks: its walk. -/
import Derived.Test.YtmbjinfeinhalaaCookieCheck
namespace Go.Proofs.Ytmbjinfeinhalaa
open Go.RowKit
set_option linter.unusedVariables false

theorem cookie_Check_no (g : Nat) (fa fp ta tp irs c now : Int) (w : World) (h : outB now 1099511627776 = true) :
    Calls Try.prog 89 #[.pointer (some ⟨g, 0, none⟩), .agg (endC fa fp).toArray, .agg (endC ta tp).toArray, .int .u32 irs, .int .u32 c, .int .i64 now] w fun e w' =>
      e = .returned (.tuple #[.int .i64 0, .int .i64 1]) ∧ Below w.heap.size w w' := by
  have HT := Lib.hid (fun w => cookie_isTime now w)
  unfold endC
  go_enter Try.func89, Try.ntmps89
  go_wp2_with (go_at_call 130; refine (HT.out _).mono ?_; rintro e w' ⟨rfl, rfl⟩)
  go_ret2
  exact ⟨rfl, by go_grown⟩
theorem ref_CkCheck_no (k0 k1 fa fp ta tp irs c now : Int) (w : World) (h : outB now 1099511627776 = true) :
    Calls Try.prog 90 #[.agg (keyC k0 k1).toArray, .agg (endC fa fp).toArray, .agg (endC ta tp).toArray, .int .u32 irs, .int .u32 c, .int .i64 now] w fun e w' =>
      e = .returned (.tuple #[.int .i64 0, .int .i64 1]) ∧ Below w.heap.size w w' := by
  have HT := Lib.hid (fun w => ref_outside0 now 1099511627776 w)
  unfold endC keyC
  go_enter Try.func90, Try.ntmps90
  go_wp2_with (go_at_call 105; refine (HT.out _).mono ?_; rintro e w' ⟨rfl, rfl⟩)
  go_ret2
  exact ⟨rfl, by go_grown⟩

theorem check_both (k0 k1 fa fp ta tp irs c now : Int) (a1 : 0 ≤ fa) (a2 : fa ≤ 4294967295) (b1 : 0 ≤ ta) (b2 : ta ≤ 4294967295)
    (a3 : -9223372036854775808 ≤ fp) (a4 : fp ≤ 9223372036854775807) (b3 : -9223372036854775808 ≤ tp) (b4 : tp ≤ 9223372036854775807) (h2 : 0 ≤ irs) (h2' : irs ≤ 4294967295) (h3 : 0 ≤ c) (h3' : c ≤ 4294967295) :
    ∃ v er : Int, (∀ g w, Blk w g 174 (keyC k0 k1) → Calls Try.prog 89 #[.pointer (some ⟨g, 0, none⟩), .agg (endC fa fp).toArray, .agg (endC ta tp).toArray, .int .u32 irs, .int .u32 c, .int .i64 now] w fun e w' =>
        e = .returned (.tuple #[.int .i64 v, .int .i64 er]) ∧ Below w.heap.size w w') ∧
      (∀ w, Calls Try.prog 90 #[.agg (keyC k0 k1).toArray, .agg (endC fa fp).toArray, .agg (endC ta tp).toArray, .int .u32 irs, .int .u32 c, .int .i64 now] w fun e w' =>
        e = .returned (.tuple #[.int .i64 v, .int .i64 er]) ∧ Below w.heap.size w w') := by
  cases hn : outB now 1099511627776
  · have hn2 := outB_false hn
    rcases fresh_or (c / 16777216 / 8) now with hF | hS
    · by_cases hc : ckSum k0 k1 fa fp ta tp irs (c / 16777216) = c % 16777216
      · exact ⟨_, _, fun g w hK => cookie_Check_ok g k0 k1 fa fp ta tp irs c now w hK a1 a2 b1 b2 h2 h2' h3 h3' hn2.1 hn2.2 hF hc, fun w => ref_CkCheck_ok k0 k1 fa fp ta tp irs c now w a1 a2 b1 b2 a3 a4 b3 b4 h2 h2' h3 h3' hn2.1 hn2.2 hF hc⟩
      · exact ⟨_, _, fun g w hK => cookie_Check_bad g k0 k1 fa fp ta tp irs c now w hK a1 a2 b1 b2 h2 h2' h3 h3' hn2.1 hn2.2 hF hc, fun w => ref_CkCheck_bad k0 k1 fa fp ta tp irs c now w a1 a2 b1 b2 a3 a4 b3 b4 h2 h2' h3 h3' hn2.1 hn2.2 hF hc⟩
    · exact ⟨0, 13, fun g w _ => cookie_Check_stale g fa fp ta tp irs c now w h3 h3' hn2.1 hn2.2 hS, fun w => ref_CkCheck_stale k0 k1 fa fp ta tp irs c now w h3 h3' hn2.1 hn2.2 hS⟩
  · exact ⟨0, 1, fun g w _ => cookie_Check_no g fa fp ta tp irs c now w hn, fun w => ref_CkCheck_no k0 k1 fa fp ta tp irs c now w hn⟩

set_option maxRecDepth 100000 in
set_option maxHeartbeats 1000000 in
theorem walk_cookieChecks (w : World) (k0 k1 : Int) (c d : Array Value) (irs ck now : Int) (_ : 0 ≤ k0) (_ : k0 ≤ 18446744073709551615) (_ : 0 ≤ k1) (_ : k1 ≤ 18446744073709551615) (lc : leafAll endLeaves c.toList) (ld : leafAll endLeaves d.toList)
    (h2 : 0 ≤ irs) (h2' : irs ≤ 4294967295) (h3 : 0 ≤ ck) (h3' : ck ≤ 4294967295) (_ : -9223372036854775808 ≤ now) (_ : now ≤ 9223372036854775807) :
    Calls Try.prog 13 #[.int .u64 k0, .int .u64 k1, .agg c, .agg d, .int .u32 irs, .int .u32 ck, .int .i64 now] w fun e w' => e = .returned (.bool true) ∧ Below w.heap.size w w' := by
  obtain ⟨c⟩ := c
  obtain ⟨d⟩ := d
  obtain ⟨fa, fp, rfl, ⟨a1, a2⟩, ⟨a3, a4⟩⟩ := end_open lc
  obtain ⟨ta, tp, rfl, ⟨b1, b2⟩, ⟨b3, b4⟩⟩ := end_open ld
  obtain ⟨v, er, c1, c2⟩ := check_both k0 k1 fa fp ta tp irs ck now a1 a2 b1 b2 a3 a4 b3 b4 h2 h2' h3 h3'
  have H1 := Lib.hid c1
  have H2 := Lib.hid c2
  clear c1 c2 lc ld
  have HNEW := Lib.hid (fun w => cookie_New k0 k1 w)
  unfold endC at *
  go_enter Try.func13, Try.ntmps13
  go_wp2_with fail
  refine (HNEW.out _).mono ?_
  rintro e w1 ⟨rfl, rfl⟩
  have hB := three_boxes w [Value.int IntKind.u32 fa, Value.int IntKind.i64 fp] [Value.int IntKind.u32 ta, Value.int IntKind.i64 tp] (keyC k0 k1) 31 31 174
  unfold keyC at *
  obtain ⟨hK0, hK1, hK2, hO⟩ := hB
  have hz : (((w.alloc (Obj.cells [Value.int IntKind.u32 fa, Value.int IntKind.i64 fp].toArray 31)).alloc (Obj.cells [Value.int IntKind.u32 ta, Value.int IntKind.i64 tp].toArray 31)).alloc (Obj.cells [Value.int IntKind.u64 k0, Value.int IntKind.u64 k1].toArray 174)).heap.size = w.heap.size + 1 + 1 + 1 := by simp
  have hK3 : Blk ((((w.alloc (Obj.cells [Value.int IntKind.u32 fa, Value.int IntKind.i64 fp].toArray 31)).alloc (Obj.cells [Value.int IntKind.u32 ta, Value.int IntKind.i64 tp].toArray 31)).alloc (Obj.cells [Value.int IntKind.u64 k0, Value.int IntKind.u64 k1].toArray 174)).alloc (Obj.cells [Value.int IntKind.u64 k0, Value.int IntKind.u64 k1].toArray 96)) (w.heap.size + 1 + 1 + 1) 96 [Value.int IntKind.u64 k0, Value.int IntKind.u64 k1] := by
    have h := Blk.new (((w.alloc (Obj.cells [Value.int IntKind.u32 fa, Value.int IntKind.i64 fp].toArray 31)).alloc (Obj.cells [Value.int IntKind.u32 ta, Value.int IntKind.i64 tp].toArray 31)).alloc (Obj.cells [Value.int IntKind.u64 k0, Value.int IntKind.u64 k1].toArray 174)) 96 [Value.int IntKind.u64 k0, Value.int IntKind.u64 k1]
    rwa [hz] at h
  have hK0 := hK0.alloc (Obj.cells [Value.int IntKind.u64 k0, Value.int IntKind.u64 k1].toArray 96)
  have hK1 := hK1.alloc (Obj.cells [Value.int IntKind.u64 k0, Value.int IntKind.u64 k1].toArray 96)
  have hK2 := hK2.alloc (Obj.cells [Value.int IntKind.u64 k0, Value.int IntKind.u64 k1].toArray 96)
  have hO := hO.trans (below_alloc (B := w.heap.size) (Obj.cells [Value.int IntKind.u64 k0, Value.int IntKind.u64 k1].toArray 96) hO.size)
  have HK0 := Lib.hid hK0
  have HK1 := Lib.hid hK1
  have HK2 := Lib.hid hK2
  have HK3 := Lib.hid hK3
  have HO := Lib.hid hO
  clear hK0 hK1 hK2 hK3 hO hz
  go_wp2_with fail
  refine (H1.out _ _ HK2.out).mono ?_
  rintro e w5 ⟨rfl, hb5⟩
  have hL0 := HK0.out.below hb5 HK0.out.lt
  have hL1 := HK1.out.below hb5 HK1.out.lt
  have hL3 := HK3.out.below hb5 HK3.out.lt
  have HO5 := Lib.hid (HO.out.trans (hb5.mono HO.out.size))
  have q0 := hL0.at_ (i := 0) (v := .int .u32 fa) rfl
  have q1 := hL0.at_ (i := 1) (v := .int .i64 fp) rfl
  have q2 := hL1.at_ (i := 0) (v := .int .u32 ta) rfl
  have q3 := hL1.at_ (i := 1) (v := .int .i64 tp) rfl
  have q4 := hL3.at_ (i := 0) (v := .int .u64 k0) rfl
  have q5 := hL3.at_ (i := 1) (v := .int .u64 k1) rfl
  clear hL0 hL1 hL3 hb5 HK0 HK1 HK2 HK3 HO H1 HNEW
  go_wp2_with fail
  refine (H2.out _).mono ?_
  rintro e w6 ⟨rfl, hb6⟩
  have HO6 := Lib.hid (HO5.out.trans (hb6.mono HO5.out.size))
  clear hb6
  go_wp2
  go_ret
  exact ⟨by simp, HO6.out⟩
end Go.Proofs.Ytmbjinfeinhalaa
