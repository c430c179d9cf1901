/- The reference's Make; the refusals. -/
import Derived.Test.YtmbjinfeinhalaaCookieMake
namespace Go.Proofs.Ytmbjinfeinhalaa
open Go.RowKit
set_option linter.unusedVariables false

/-- Three boxes laid one behind the other. -/
theorem three_boxes (w : World) (a b c : List Value) (ta tb tc : TypeId) :
    Blk (((w.alloc (.cells a.toArray ta)).alloc (.cells b.toArray tb)).alloc (.cells c.toArray tc)) w.heap.size ta a ∧
    Blk (((w.alloc (.cells a.toArray ta)).alloc (.cells b.toArray tb)).alloc (.cells c.toArray tc)) (w.heap.size + 1) tb b ∧
    Blk (((w.alloc (.cells a.toArray ta)).alloc (.cells b.toArray tb)).alloc (.cells c.toArray tc)) (w.heap.size + 1 + 1) tc c ∧
    Below w.heap.size w (((w.alloc (.cells a.toArray ta)).alloc (.cells b.toArray tb)).alloc (.cells c.toArray tc)) := by
  refine ⟨((Blk.new w _ _).alloc _).alloc _, ?_, ?_, by go_grown⟩
  · have h := (Blk.new (w.alloc (.cells a.toArray ta)) tb b).alloc (.cells c.toArray tc)
    simp only [World.size_alloc] at h
    exact h
  · have h := Blk.new ((w.alloc (.cells a.toArray ta)).alloc (.cells b.toArray tb)) tc c
    simp only [World.size_alloc] at h
    exact h

set_option maxRecDepth 100000 in
set_option maxHeartbeats 1000000 in
theorem ref_CkMake (k0 k1 fa fp ta tp irs mss now : Int) (w : World) (h0 : 0 ≤ fa) (h0' : fa ≤ 4294967295) (h1 : 0 ≤ ta) (h1' : ta ≤ 4294967295)
    (h5 : -9223372036854775808 ≤ fp) (h5' : fp ≤ 9223372036854775807) (h6 : -9223372036854775808 ≤ tp) (h6' : tp ≤ 9223372036854775807)
    (h2 : 0 ≤ irs) (h2' : irs ≤ 4294967295) (h3 : 8 ≤ mss) (h4 : 0 ≤ now) (h4' : now ≤ 1099511627776) :
    Calls Try.prog 78 #[.agg (keyC k0 k1).toArray, .agg (endC fa fp).toArray, .agg (endC ta tp).toArray, .int .u32 irs, .int .i64 mss, .int .i64 now] w fun e w' =>
      e = .returned (.tuple #[.int .u32 (firstOf mss now * 16777216 + ckSum k0 k1 fa fp ta tp irs (firstOf mss now)), .int .i64 0]) ∧ Below w.heap.size w w' := by
  have hT := fun w => ref_outside0 now 1099511627776 w
  have hout : outB now 1099511627776 = false := by simp [outB]; omega
  rw [hout] at hT
  have HT := Lib.hid hT
  have hs8 := stepTo_8 mss
  have hf1 : 0 ≤ firstOf mss now := by unfold firstOf; omega
  have hf2 : firstOf mss now ≤ 255 := by unfold firstOf; omega
  have e4 : now / 64 % 32 * 8 + stepTo mss 8 = firstOf mss now := rfl
  have HSUM := Lib.hid (fun (W : World) => ref_made k0 k1 fa fp ta tp irs (firstOf mss now) W h0 h0' h1 h1' h5 h5' h6 h6' h2 h2' hf1 hf2)
  generalize firstOf mss now * 16777216 + ckSum k0 k1 fa fp ta tp irs (firstOf mss now) = cs at HSUM ⊢
  have HE := Lib.hid e4
  clear hT hout e4
  generalize firstOf mss now = fi at HSUM HE hf1 hf2
  have hB := three_boxes w (keyC k0 k1) (endC fa fp) (endC ta tp) 96 31 31
  unfold endC keyC at *
  have HB := Lib.hid hB
  clear hB
  go_enter Try.func78, Try.ntmps78
  go_wp2_with fail
  refine (HT.out _).mono ?_
  rintro e w1 ⟨rfl, rfl⟩
  obtain ⟨hK0, hK1, hK2, hO⟩ := HB.out
  generalize ((w.alloc (Obj.cells [Value.int IntKind.u64 k0, Value.int IntKind.u64 k1].toArray 96)).alloc (Obj.cells [Value.int IntKind.u32 fa, Value.int IntKind.i64 fp].toArray 31)).alloc (Obj.cells [Value.int IntKind.u32 ta, Value.int IntKind.i64 tp].toArray 31) = w0 at hK0 hK1 hK2 hO ⊢
  have hG := Blk.new w0 3 stepsC
  have q0 := (hK0.alloc (.cells stepsC.toArray 3)).at_ (i := 0) (v := .int .u64 k0) rfl
  have q1 := (hK0.alloc (.cells stepsC.toArray 3)).at_ (i := 1) (v := .int .u64 k1) rfl
  have q2 := (hK1.alloc (.cells stepsC.toArray 3)).at_ (i := 0) (v := .int .u32 fa) rfl
  have q3 := (hK1.alloc (.cells stepsC.toArray 3)).at_ (i := 1) (v := .int .i64 fp) rfl
  have q4 := (hK2.alloc (.cells stepsC.toArray 3)).at_ (i := 0) (v := .int .u32 ta) rfl
  have q5 := (hK2.alloc (.cells stepsC.toArray 3)).at_ (i := 1) (v := .int .i64 tp) rfl
  have hO2 := hO.trans (below_alloc (w := w0) (B := w.heap.size) (.cells stepsC.toArray 3) hO.size)
  clear hO hK0 hK1 hK2
  go_wp2_with fail
  generalize hW : w0.alloc (.cells stepsC.toArray 3) = w2 at hG q0 q1 q2 q3 q4 q5 hO2
  change Code.wp _ _ _ _ (w0.alloc (.cells stepsC.toArray 3))
  rw [hW]
  generalize w0.heap.size = gs at hG ⊢
  have HG := Lib.hid hG
  have HO2 := Lib.hid hO2
  clear hG hO2 hW
  go_loop [14, 25] (fun st i => ∃ k : Nat, k ≤ 8 ∧ i = .int .i64 k ∧ st = .int .i64 (stepTo mss k)) (fun _ i => 8 - (intOf i).toNat)
  case atStart => exact ⟨0, by omega, rfl, rfl⟩
  case round =>
    obtain ⟨k, hk, rfl, rfl⟩ := hrel
    by_cases hlt : k < 8
    · have hcell : w2.cell? ⟨gs, k, none⟩ = some (.int .i64 (stepsL.getD k 0)) := HG.out.at_ (by
        simp only [stepsC, List.getElem?_map, List.getD]
        rw [List.getElem?_eq_getElem (by simp [stepsL]; omega)]
        rfl)
      have hsk : stepTo mss (k + 1) = if stepsL.getD k 0 ≤ mss then (k : Int) else stepTo mss k := rfl
      generalize stepsL.getD k 0 = n at hcell hsk
      have HSK := Lib.hid hsk
      clear hsk
      by_cases hle : n ≤ mss
      · go_wp2
        go_round
        case rel => exact ⟨k + 1, by omega, by go_num, by rw [HSK.out, if_pos hle]⟩
        case measure => simp only [intOf]; omega
      · go_wp2
        go_round
        case rel => exact ⟨k + 1, by omega, by go_num, by rw [HSK.out, if_neg hle]⟩
        case measure => simp only [intOf]; omega
    · obtain rfl : k = 8 := by omega
      generalize stepTo mss 8 = st at HE hs8 ⊢
      go_wp2_with fail
      rw [HE.out]
      refine (HSUM.out _).mono ?_
      rintro e w3 ⟨rfl, hb3⟩
      have HO3 := Lib.hid (HO2.out.trans (hb3.mono HO2.out.size))
      clear hb3
      go_wp2
      go_ret2
      exact ⟨rfl, HO3.out⟩

theorem cookie_Make_no (g : Nat) (fa fp ta tp irs mss now : Int) (w : World) (h : outB now 1099511627776 = true ∨ mss < 8) :
    Calls Try.prog 77 #[.pointer (some ⟨g, 0, none⟩), .agg (endC fa fp).toArray, .agg (endC ta tp).toArray, .int .u32 irs, .int .i64 mss, .int .i64 now] w fun e w' =>
      e = .returned (.tuple #[.int .u32 0, .int .i64 1]) ∧ Below w.heap.size w w' := by
  have HT := Lib.hid (fun w => cookie_isTime now w)
  unfold endC
  have key : (outB now 1099511627776 = true) ∨ (outB now 1099511627776 = false ∧ mss < 8) := by
    rcases h with h | h
    · exact .inl h
    · cases hb : outB now 1099511627776
      · exact .inr ⟨rfl, h⟩
      · exact .inl rfl
  rcases key with h1 | ⟨h1, h2⟩
  all_goals
    go_enter Try.func77, Try.ntmps77
    go_wp2_with (go_at_call 130; refine (HT.out _).mono ?_; rintro e w' ⟨rfl, rfl⟩)
    go_ret2
    exact ⟨rfl, by go_grown⟩
theorem ref_CkMake_no (k0 k1 fa fp ta tp irs mss now : Int) (w : World) (h : outB now 1099511627776 = true ∨ mss < 8) :
    Calls Try.prog 78 #[.agg (keyC k0 k1).toArray, .agg (endC fa fp).toArray, .agg (endC ta tp).toArray, .int .u32 irs, .int .i64 mss, .int .i64 now] w fun e w' =>
      e = .returned (.tuple #[.int .u32 0, .int .i64 1]) ∧ Below w.heap.size w w' := by
  have HT := Lib.hid (fun w => ref_outside0 now 1099511627776 w)
  unfold endC keyC
  have key : (outB now 1099511627776 = true) ∨ (outB now 1099511627776 = false ∧ mss < 8) := by
    rcases h with h | h
    · exact .inl h
    · cases hb : outB now 1099511627776
      · exact .inr ⟨rfl, h⟩
      · exact .inl rfl
  rcases key with h1 | ⟨h1, h2⟩
  all_goals
    go_enter Try.func78, Try.ntmps78
    go_wp2_with (go_at_call 105; refine (HT.out _).mono ?_; rintro e w' ⟨rfl, rfl⟩)
    go_ret2
    exact ⟨rfl, by go_grown⟩
end Go.Proofs.Ytmbjinfeinhalaa
