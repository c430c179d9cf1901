/- Package cookie: Check; the reference's. -/
import Derived.Test.YtmbjinfeinhalaaCookieMLaw
namespace Go.Proofs.Ytmbjinfeinhalaa
open Go.RowKit
set_option linter.unusedVariables false

theorem and_7 (n : Int) (h : 0 ≤ n) (h' : n ≤ 4294967295) : bits BinOp.and IntKind.u32 n 7 = n % 8 := by
  obtain ⟨k, rfl⟩ := Int.eq_ofNat_of_zero_le h
  have h1 := u32_and_nat k 7 (by omega) (by omega)
  rw [show (7 : Nat) = 2 ^ 3 - 1 from rfl, Nat.and_two_pow_sub_one_eq_mod] at h1
  rw [show (7 : Int) = ((2 ^ 3 - 1 : Nat) : Int) from rfl, h1]
  omega
theorem steps_index32 (k : Nat) (hk : k < 8) (W : World) : (Instr.index 175 (.agg stepsC.toArray) (.int .u32 (k : Int))).run Try.prog W = .ok (.int .i64 (stepsL.getD k 0)) W := by
  match k, hk with
  | 0, _ => show _ = _; kernel_rfl
  | 1, _ => show _ = _; kernel_rfl
  | 2, _ => show _ = _; kernel_rfl
  | 3, _ => show _ = _; kernel_rfl
  | 4, _ => show _ = _; kernel_rfl
  | 5, _ => show _ = _; kernel_rfl
  | 6, _ => show _ = _; kernel_rfl
  | 7, _ => show _ = _; kernel_rfl

/-- The time that the cookie tells is this step or the one before. -/
def Fresh (t now : Int) : Prop := t = now / 64 % 32 ∨ (t ≠ now / 64 % 32 ∧ 64 ≤ now ∧ t = (now - 64) / 64 % 32)
def Stale (t now : Int) : Prop := (t ≠ now / 64 % 32 ∧ now < 64) ∨ (t ≠ now / 64 % 32 ∧ 64 ≤ now ∧ t ≠ (now - 64) / 64 % 32)
theorem fresh_or (t now : Int) : Fresh t now ∨ Stale t now := by unfold Fresh Stale; omega

set_option maxRecDepth 100000 in
set_option maxHeartbeats 1000000 in
theorem cookie_Check_stale (g : Nat) (fa fp ta tp irs c now : Int) (w : World) (h2 : 0 ≤ c) (h2' : c ≤ 4294967295) (h4 : 0 ≤ now) (h4' : now ≤ 1099511627776) (hS : Stale (c / 16777216 / 8) now) :
    Calls Try.prog 89 #[.pointer (some ⟨g, 0, none⟩), .agg (endC fa fp).toArray, .agg (endC ta tp).toArray, .int .u32 irs, .int .u32 c, .int .i64 now] w fun e w' =>
      e = .returned (.tuple #[.int .i64 0, .int .i64 13]) ∧ Below w.heap.size w w' := by
  have hT := fun w => cookie_isTime now w
  have hout : outB now 1099511627776 = false := by simp [outB]; omega
  rw [hout] at hT
  have HT := Lib.hid hT
  have e1 := and_31 (now / 64) (by omega) (by omega)
  have e2 : 64 ≤ now → bits BinOp.and IntKind.i64 ((now - 64) / 64) 31 = (now - 64) / 64 % 32 := fun _ => and_31 ((now - 64) / 64) (by omega) (by omega)
  clear hT hout
  unfold endC Stale at *
  rcases hS with ⟨d1, d2⟩ | ⟨d1, d2, d3⟩
  all_goals
    have b1 : (c / 16777216 / 8 != now / 64 % 32) = true := by simpa using d1
    try have b2 : (c / 16777216 / 8 != (now - 64) / 64 % 32) = true := by simpa using d3
    try rw [show (64 ≤ now) = True from eq_true d2] at e2
    try simp only [true_implies] at e2
    go_enter Try.func89, Try.ntmps89
    go_wp2_with (go_at_call 130; refine (HT.out _).mono ?_; rintro e w' ⟨rfl, rfl⟩)
    go_ret2
    exact ⟨rfl, by go_grown⟩

set_option maxRecDepth 100000 in
set_option maxHeartbeats 1000000 in
theorem ref_CkCheck_stale (k0 k1 fa fp ta tp irs c now : Int) (w : World) (h2 : 0 ≤ c) (h2' : c ≤ 4294967295) (h4 : 0 ≤ now) (h4' : now ≤ 1099511627776) (hS : Stale (c / 16777216 / 8) now) :
    Calls Try.prog 90 #[.agg (keyC k0 k1).toArray, .agg (endC fa fp).toArray, .agg (endC ta tp).toArray, .int .u32 irs, .int .u32 c, .int .i64 now] w fun e w' =>
      e = .returned (.tuple #[.int .i64 0, .int .i64 13]) ∧ Below w.heap.size w w' := by
  have hT := fun w => ref_outside0 now 1099511627776 w
  have hout : outB now 1099511627776 = false := by simp [outB]; omega
  rw [hout] at hT
  have HT := Lib.hid hT
  clear hT hout
  unfold endC keyC Stale at *
  rcases hS with ⟨d1, d2⟩ | ⟨d1, d2, d3⟩
  all_goals
    have b1 : (c / 16777216 / 8 != now / 64 % 32) = true := by simpa using d1
    try have b2 : (c / 16777216 / 8 != (now - 64) / 64 % 32) = true := by simpa using d3
    go_enter Try.func90, Try.ntmps90
    go_wp2_with (go_at_call 105; refine (HT.out _).mono ?_; rintro e w' ⟨rfl, rfl⟩)
    go_ret2
    exact ⟨rfl, by go_grown⟩

set_option maxRecDepth 100000 in
set_option maxHeartbeats 1000000 in
theorem cookie_Check_bad (g : Nat) (k0 k1 fa fp ta tp irs c now : Int) (w : World) (hK : Blk w g 174 (keyC k0 k1)) (h0 : 0 ≤ fa) (h0' : fa ≤ 4294967295) (h1 : 0 ≤ ta) (h1' : ta ≤ 4294967295) 
    (h6 : 0 ≤ irs) (h6' : irs ≤ 4294967295) (h2 : 0 ≤ c) (h2' : c ≤ 4294967295) (h4 : 0 ≤ now) (h4' : now ≤ 1099511627776) (hS : Fresh (c / 16777216 / 8) now) (hne : ckSum k0 k1 fa fp ta tp irs (c / 16777216) ≠ c % 16777216) :
    Calls Try.prog 89 #[.pointer (some ⟨g, 0, none⟩), .agg (endC fa fp).toArray, .agg (endC ta tp).toArray, .int .u32 irs, .int .u32 c, .int .i64 now] w fun e w' =>
      e = .returned (.tuple #[.int .i64 0, .int .i64 5]) ∧ Below w.heap.size w w' := by
  have hT := fun w => cookie_isTime now w
  have hout : outB now 1099511627776 = false := by simp [outB]; omega
  rw [hout] at hT
  have HT := Lib.hid hT
  have e1 := and_31 (now / 64) (by omega) (by omega)
  have e2 : 64 ≤ now → bits BinOp.and IntKind.i64 ((now - 64) / 64) 31 = (now - 64) / 64 % 32 := fun _ => and_31 ((now - 64) / 64) (by omega) (by omega)
  have e3 := and_24 c h2 h2'
  have HSUM := Lib.hid (fun (W : World) (hk : Blk W g 174 (keyC k0 k1)) => cookie_sum g k0 k1 fa fp ta tp irs (c / 16777216) W hk h0 h0' h1 h1' h6 h6' (by omega) (by omega))
  generalize ckSum k0 k1 fa fp ta tp irs (c / 16777216) = cs at HSUM hne
  have hKg := (hK.alloc (Obj.cells #[Value.int IntKind.u32 fa, Value.int IntKind.i64 fp] 31)).alloc (Obj.cells #[Value.int IntKind.u32 ta, Value.int IntKind.i64 tp] 31)
  have HKg := Lib.hid hKg
  have HO := Lib.hid (show Below w.heap.size w ((w.alloc (Obj.cells #[Value.int IntKind.u32 fa, Value.int IntKind.i64 fp] 31)).alloc (Obj.cells #[Value.int IntKind.u32 ta, Value.int IntKind.i64 tp] 31)) by go_grown)
  clear hT hout hK hKg
  unfold endC Fresh at *
  rcases hS with d1 | ⟨d1, d2, d3⟩
  · have b1 : (c / 16777216 / 8 != now / 64 % 32) = false := by simpa using d1
    clear d1 e2
    go_enter Try.func89, Try.ntmps89
    go_wp2_with first | (go_at_call 130; refine (HT.out _).mono ?_; rintro e w' ⟨rfl, rfl⟩) | (go_at_call 132; refine (HSUM.out _ HKg.out).mono ?_; rintro e w' ⟨rfl, hb⟩; have hb := HO.out.trans (hb.mono HO.out.size))
    go_ret2
    exact ⟨rfl, hb⟩
  · have b1 : (c / 16777216 / 8 != now / 64 % 32) = true := by simpa using d1
    have b2 : (c / 16777216 / 8 != (now - 64) / 64 % 32) = false := by simpa using d3
    have e2 := e2 d2
    go_enter Try.func89, Try.ntmps89
    go_wp2_with first | (go_at_call 130; refine (HT.out _).mono ?_; rintro e w' ⟨rfl, rfl⟩) | (go_at_call 132; refine (HSUM.out _ HKg.out).mono ?_; rintro e w' ⟨rfl, hb⟩; have hb := HO.out.trans (hb.mono HO.out.size))
    go_ret2
    exact ⟨rfl, hb⟩

set_option maxRecDepth 100000 in
set_option maxHeartbeats 1000000 in
theorem cookie_Check_ok (g : Nat) (k0 k1 fa fp ta tp irs c now : Int) (w : World) (hK : Blk w g 174 (keyC k0 k1)) (h0 : 0 ≤ fa) (h0' : fa ≤ 4294967295) (h1 : 0 ≤ ta) (h1' : ta ≤ 4294967295) 
    (h6 : 0 ≤ irs) (h6' : irs ≤ 4294967295) (h2 : 0 ≤ c) (h2' : c ≤ 4294967295) (h4 : 0 ≤ now) (h4' : now ≤ 1099511627776) (hS : Fresh (c / 16777216 / 8) now) (hne : ckSum k0 k1 fa fp ta tp irs (c / 16777216) = c % 16777216) :
    Calls Try.prog 89 #[.pointer (some ⟨g, 0, none⟩), .agg (endC fa fp).toArray, .agg (endC ta tp).toArray, .int .u32 irs, .int .u32 c, .int .i64 now] w fun e w' =>
      e = .returned (.tuple #[.int .i64 (stepsL.getD (c / 16777216 % 8).toNat 0), .int .i64 0]) ∧ Below w.heap.size w w' := by
  have hT := fun w => cookie_isTime now w
  have hout : outB now 1099511627776 = false := by simp [outB]; omega
  rw [hout] at hT
  have HT := Lib.hid hT
  have e1 := and_31 (now / 64) (by omega) (by omega)
  have e2 : 64 ≤ now → bits BinOp.and IntKind.i64 ((now - 64) / 64) 31 = (now - 64) / 64 % 32 := fun _ => and_31 ((now - 64) / 64) (by omega) (by omega)
  have e3 := and_24 c h2 h2'
  have HSUM := Lib.hid (fun (W : World) (hk : Blk W g 174 (keyC k0 k1)) => cookie_sum g k0 k1 fa fp ta tp irs (c / 16777216) W hk h0 h0' h1 h1' h6 h6' (by omega) (by omega))
  generalize ckSum k0 k1 fa fp ta tp irs (c / 16777216) = cs at HSUM hne
  have e4 := and_7 (c / 16777216) (by omega) (by omega)
  have hix : ∀ W, (Instr.index 175 (.agg stepsC.toArray) (.int .u32 (c / 16777216 % 8))).run Try.prog W = .ok (.int .i64 (stepsL.getD (c / 16777216 % 8).toNat 0)) W := fun W => by
    have h := steps_index32 (c / 16777216 % 8).toNat (by omega) W
    rwa [Int.toNat_of_nonneg (by omega)] at h
  have HS := Lib.hid (fun W => cookie_steps W)
  generalize stepsL.getD (c / 16777216 % 8).toNat 0 = n at hix ⊢
  generalize hC : stepsC.toArray = C at hix HS
  clear hC
  have hKg := (hK.alloc (Obj.cells #[Value.int IntKind.u32 fa, Value.int IntKind.i64 fp] 31)).alloc (Obj.cells #[Value.int IntKind.u32 ta, Value.int IntKind.i64 tp] 31)
  have HKg := Lib.hid hKg
  have HO := Lib.hid (show Below w.heap.size w ((w.alloc (Obj.cells #[Value.int IntKind.u32 fa, Value.int IntKind.i64 fp] 31)).alloc (Obj.cells #[Value.int IntKind.u32 ta, Value.int IntKind.i64 tp] 31)) by go_grown)
  clear hT hout hK hKg
  unfold endC Fresh at *
  rcases hS with d1 | ⟨d1, d2, d3⟩
  · have b1 : (c / 16777216 / 8 != now / 64 % 32) = false := by simpa using d1
    clear d1 e2
    go_enter Try.func89, Try.ntmps89
    go_wp2_with first | (go_at_call 130; refine (HT.out _).mono ?_; rintro e w' ⟨rfl, rfl⟩) | (go_at_call 132; refine (HSUM.out _ HKg.out).mono ?_; rintro e w' ⟨rfl, hb⟩; have hb := HO.out.trans (hb.mono HO.out.size)) | (go_at_call 131; refine (HS.out _).mono ?_; rintro e w' ⟨rfl, hb2⟩; have hb := hb.trans (hb2.mono hb.size))
    go_ret2
    exact ⟨rfl, hb⟩
  · have b1 : (c / 16777216 / 8 != now / 64 % 32) = true := by simpa using d1
    have b2 : (c / 16777216 / 8 != (now - 64) / 64 % 32) = false := by simpa using d3
    have e2 := e2 d2
    go_enter Try.func89, Try.ntmps89
    go_wp2_with first | (go_at_call 130; refine (HT.out _).mono ?_; rintro e w' ⟨rfl, rfl⟩) | (go_at_call 132; refine (HSUM.out _ HKg.out).mono ?_; rintro e w' ⟨rfl, hb⟩; have hb := HO.out.trans (hb.mono HO.out.size)) | (go_at_call 131; refine (HS.out _).mono ?_; rintro e w' ⟨rfl, hb2⟩; have hb := hb.trans (hb2.mono hb.size))
    go_ret2
    exact ⟨rfl, hb⟩

set_option maxRecDepth 100000 in
set_option maxHeartbeats 1000000 in
theorem ref_CkCheck_bad (k0 k1 fa fp ta tp irs c now : Int) (w : World) (h0 : 0 ≤ fa) (h0' : fa ≤ 4294967295) (h1 : 0 ≤ ta) (h1' : ta ≤ 4294967295) (h7 : -9223372036854775808 ≤ fp) (h7' : fp ≤ 9223372036854775807) (h8 : -9223372036854775808 ≤ tp) (h8' : tp ≤ 9223372036854775807) 
    (h6 : 0 ≤ irs) (h6' : irs ≤ 4294967295) (h2 : 0 ≤ c) (h2' : c ≤ 4294967295) (h4 : 0 ≤ now) (h4' : now ≤ 1099511627776) (hS : Fresh (c / 16777216 / 8) now) (hne : ckSum k0 k1 fa fp ta tp irs (c / 16777216) ≠ c % 16777216) :
    Calls Try.prog 90 #[.agg (keyC k0 k1).toArray, .agg (endC fa fp).toArray, .agg (endC ta tp).toArray, .int .u32 irs, .int .u32 c, .int .i64 now] w fun e w' =>
      e = .returned (.tuple #[.int .i64 0, .int .i64 5]) ∧ Below w.heap.size w w' := by
  have hT := fun w => ref_outside0 now 1099511627776 w
  have hout : outB now 1099511627776 = false := by simp [outB]; omega
  rw [hout] at hT
  have HT := Lib.hid hT
  have HSUM := Lib.hid (fun (W : World) => ref_made k0 k1 fa fp ta tp irs (c / 16777216) W h0 h0' h1 h1' h7 h7' h8 h8' h6 h6' (by omega) (by omega))
  have hM : c / 16777216 * 16777216 + ckSum k0 k1 fa fp ta tp irs (c / 16777216) ≠ c := by omega
  generalize c / 16777216 * 16777216 + ckSum k0 k1 fa fp ta tp irs (c / 16777216) = cs at HSUM hM
  clear hne
  have HO := Lib.hid (three_boxes w (keyC k0 k1) (endC fa fp) (endC ta tp) 96 31 31).2.2.2
  clear hT hout
  unfold endC keyC Fresh at *
  rcases hS with d1 | ⟨d1, d2, d3⟩
  · have b1 : (c / 16777216 / 8 != now / 64 % 32) = false := by simpa using d1
    clear d1
    go_enter Try.func90, Try.ntmps90
    go_wp2_with first | (go_at_call 105; refine (HT.out _).mono ?_; rintro e w' ⟨rfl, rfl⟩) | (go_at_call 133; refine (HSUM.out _).mono ?_; rintro e w' ⟨rfl, hb⟩; have hb := HO.out.trans (hb.mono HO.out.size))
    go_ret2
    exact ⟨rfl, hb⟩
  · have b1 : (c / 16777216 / 8 != now / 64 % 32) = true := by simpa using d1
    have b2 : (c / 16777216 / 8 != (now - 64) / 64 % 32) = false := by simpa using d3
    go_enter Try.func90, Try.ntmps90
    go_wp2_with first | (go_at_call 105; refine (HT.out _).mono ?_; rintro e w' ⟨rfl, rfl⟩) | (go_at_call 133; refine (HSUM.out _).mono ?_; rintro e w' ⟨rfl, hb⟩; have hb := HO.out.trans (hb.mono HO.out.size))
    go_ret2
    exact ⟨rfl, hb⟩

set_option maxRecDepth 100000 in
set_option maxHeartbeats 1000000 in
theorem ref_CkCheck_ok (k0 k1 fa fp ta tp irs c now : Int) (w : World) (h0 : 0 ≤ fa) (h0' : fa ≤ 4294967295) (h1 : 0 ≤ ta) (h1' : ta ≤ 4294967295) (h7 : -9223372036854775808 ≤ fp) (h7' : fp ≤ 9223372036854775807) (h8 : -9223372036854775808 ≤ tp) (h8' : tp ≤ 9223372036854775807) 
    (h6 : 0 ≤ irs) (h6' : irs ≤ 4294967295) (h2 : 0 ≤ c) (h2' : c ≤ 4294967295) (h4 : 0 ≤ now) (h4' : now ≤ 1099511627776) (hS : Fresh (c / 16777216 / 8) now) (hne : ckSum k0 k1 fa fp ta tp irs (c / 16777216) = c % 16777216) :
    Calls Try.prog 90 #[.agg (keyC k0 k1).toArray, .agg (endC fa fp).toArray, .agg (endC ta tp).toArray, .int .u32 irs, .int .u32 c, .int .i64 now] w fun e w' =>
      e = .returned (.tuple #[.int .i64 (stepsL.getD (c / 16777216 % 8).toNat 0), .int .i64 0]) ∧ Below w.heap.size w w' := by
  have hT := fun w => ref_outside0 now 1099511627776 w
  have hout : outB now 1099511627776 = false := by simp [outB]; omega
  rw [hout] at hT
  have HT := Lib.hid hT
  have HSUM := Lib.hid (fun (W : World) => ref_made k0 k1 fa fp ta tp irs (c / 16777216) W h0 h0' h1 h1' h7 h7' h8 h8' h6 h6' (by omega) (by omega))
  have hM : c / 16777216 * 16777216 + ckSum k0 k1 fa fp ta tp irs (c / 16777216) = c := by omega
  generalize c / 16777216 * 16777216 + ckSum k0 k1 fa fp ta tp irs (c / 16777216) = cs at HSUM hM
  clear hne
  subst hM
  have hk : (cs / 16777216 % 8).toNat < 8 := by omega
  have hk2 : stepsC[(cs / 16777216 % 8).toNat]? = some (.int .i64 (stepsL.getD (cs / 16777216 % 8).toNat 0)) := by
    simp only [stepsC, List.getElem?_map, List.getD]
    rw [List.getElem?_eq_getElem (by simp [stepsL]; omega)]
    rfl
  have h16 : 0 ≤ cs / 16777216 % 8 := by omega
  have h17 : cs / 16777216 % 8 < 8 := by omega
  generalize stepsL.getD (cs / 16777216 % 8).toNat 0 = n at hk2 ⊢
  have HK2 := Lib.hid hk2
  clear hk2
  have HO := Lib.hid (three_boxes w (keyC k0 k1) (endC fa fp) (endC ta tp) 96 31 31).2.2.2
  clear hT hout
  unfold endC keyC Fresh at *
  rcases hS with d1 | ⟨d1, d2, d3⟩
  · have b1 : (cs / 16777216 / 8 != now / 64 % 32) = false := by simpa using d1
    clear d1
    go_enter Try.func90, Try.ntmps90
    go_wp2_with first | (go_at_call 105; refine (HT.out _).mono ?_; rintro e w' ⟨rfl, rfl⟩) | (go_at_call 133; refine (HSUM.out _).mono ?_; rintro e w' ⟨rfl, hb⟩; have hb := (HO.out.trans (hb.mono HO.out.size)); have hcell : (w'.alloc (Obj.cells #[Value.int IntKind.i64 8, Value.int IntKind.i64 64, Value.int IntKind.i64 216, Value.int IntKind.i64 400, Value.int IntKind.i64 536, Value.int IntKind.i64 700, Value.int IntKind.i64 850, Value.int IntKind.i64 1000] 3)).cell? ⟨w'.heap.size, (cs / 16777216 % 8).toNat, none⟩ = some (.int .i64 n) := (Blk.new w' 3 stepsC).at_ HK2.out; have HBB := Lib.hid (hb.trans (below_alloc (w := w') (B := w.heap.size) (Obj.cells #[Value.int IntKind.i64 8, Value.int IntKind.i64 64, Value.int IntKind.i64 216, Value.int IntKind.i64 400, Value.int IntKind.i64 536, Value.int IntKind.i64 700, Value.int IntKind.i64 850, Value.int IntKind.i64 1000] 3) hb.size)))
    go_ret2
    exact ⟨rfl, HBB.out⟩
  · have b1 : (cs / 16777216 / 8 != now / 64 % 32) = true := by simpa using d1
    have b2 : (cs / 16777216 / 8 != (now - 64) / 64 % 32) = false := by simpa using d3
    go_enter Try.func90, Try.ntmps90
    go_wp2_with first | (go_at_call 105; refine (HT.out _).mono ?_; rintro e w' ⟨rfl, rfl⟩) | (go_at_call 133; refine (HSUM.out _).mono ?_; rintro e w' ⟨rfl, hb⟩; have hb := (HO.out.trans (hb.mono HO.out.size)); have hcell : (w'.alloc (Obj.cells #[Value.int IntKind.i64 8, Value.int IntKind.i64 64, Value.int IntKind.i64 216, Value.int IntKind.i64 400, Value.int IntKind.i64 536, Value.int IntKind.i64 700, Value.int IntKind.i64 850, Value.int IntKind.i64 1000] 3)).cell? ⟨w'.heap.size, (cs / 16777216 % 8).toNat, none⟩ = some (.int .i64 n) := (Blk.new w' 3 stepsC).at_ HK2.out; have HBB := Lib.hid (hb.trans (below_alloc (w := w') (B := w.heap.size) (Obj.cells #[Value.int IntKind.i64 8, Value.int IntKind.i64 64, Value.int IntKind.i64 216, Value.int IntKind.i64 400, Value.int IntKind.i64 536, Value.int IntKind.i64 700, Value.int IntKind.i64 850, Value.int IntKind.i64 1000] 3) hb.size)))
    go_ret2
    exact ⟨rfl, HBB.out⟩
end Go.Proofs.Ytmbjinfeinhalaa
