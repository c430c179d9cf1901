/- Package cookie: Make; the reference's. -/
import Derived.Test.YtmbjinfeinhalaaCookie
import Derived.Test.YtmbjinfeinhalaaIpChk
namespace Go.Proofs.Ytmbjinfeinhalaa
open Go.RowKit
set_option linter.unusedVariables false

def stepsL : List Int := [8, 64, 216, 400, 536, 700, 850, 1000]
def stepsC : List Value := stepsL.map (.int .i64)
/-- The last of the first k steps that is not above mss. -/
def stepTo (mss : Int) : Nat → Int
  | 0 => 0
  | k + 1 => if stepsL.getD k 0 ≤ mss then (k : Int) else stepTo mss k
theorem stepTo_bd (mss : Int) : ∀ k : Nat, 0 ≤ stepTo mss k ∧ stepTo mss k ≤ k
  | 0 => by simp [stepTo]
  | k + 1 => by
    have := stepTo_bd mss k
    unfold stepTo
    split <;> omega
theorem stepTo_8 (mss : Int) : 0 ≤ stepTo mss 8 ∧ stepTo mss 8 ≤ 7 := by
  have h := stepTo_bd mss 7
  show 0 ≤ (if _ then _ else stepTo mss 7) ∧ (if _ then _ else stepTo mss 7) ≤ 7
  split
  · exact ⟨by decide, by decide⟩
  · omega
def firstOf (mss now : Int) : Int := now / 64 % 32 * 8 + stepTo mss 8

theorem cookie_isTime (n : Int) (w : World) : Calls Try.prog 130 #[.int .i64 n] w fun e w' => e = .returned (.bool (!outB n 1099511627776)) ∧ w = w' := by
  by_cases h : 0 ≤ n
  · go_enter Try.func130, Try.ntmps130
    go_wp2
    go_ret
    exact ⟨ret_bool (by rw [Bool.eq_iff_iff]; simp [outB]; omega), rfl⟩
  · go_enter Try.func130, Try.ntmps130
    go_wp2
    go_ret
    exact ⟨ret_bool (by rw [Bool.eq_iff_iff]; simp [outB]; omega), rfl⟩

set_option maxRecDepth 100000 in
theorem cookie_steps (w : World) : Calls Try.prog 131 #[] w fun e w' => e = .returned (.agg stepsC.toArray) ∧ Below w.heap.size w w' := by
  go_enter Try.func131, Try.ntmps131
  go_wp2
  exact bodyPost_ret (v := .agg stepsC.toArray) (by simp [results, Try.results131, go_sem, stepsC, stepsL]) rfl ⟨rfl, by go_grown⟩

theorem steps_index (k : Nat) (hk : k < 8) (W : World) : (Instr.index 175 (.agg stepsC.toArray) (.int .i64 (k : Int))).run Try.prog W = .ok (.int .i64 (stepsL.getD k 0)) W := by
  match k, hk with
  | 0, _ => show _ = _; kernel_rfl
  | 1, _ => show _ = _; kernel_rfl
  | 2, _ => show _ = _; kernel_rfl
  | 3, _ => show _ = _; kernel_rfl
  | 4, _ => show _ = _; kernel_rfl
  | 5, _ => show _ = _; kernel_rfl
  | 6, _ => show _ = _; kernel_rfl
  | 7, _ => show _ = _; kernel_rfl

set_option maxRecDepth 100000 in
set_option maxHeartbeats 1000000 in
theorem cookie_Make (g : Nat) (k0 k1 fa fp ta tp irs mss now : Int) (w : World) (hK : Blk w g 174 (keyC k0 k1)) (h0 : 0 ≤ fa) (h0' : fa ≤ 4294967295) (h1 : 0 ≤ ta) (h1' : ta ≤ 4294967295)
    (h2 : 0 ≤ irs) (h2' : irs ≤ 4294967295) (h3 : 8 ≤ mss) (h4 : 0 ≤ now) (h4' : now ≤ 1099511627776) :
    Calls Try.prog 77 #[.pointer (some ⟨g, 0, none⟩), .agg (endC fa fp).toArray, .agg (endC ta tp).toArray, .int .u32 irs, .int .i64 mss, .int .i64 now] w fun e w' =>
      e = .returned (.tuple #[.int .u32 (firstOf mss now * 16777216 + ckSum k0 k1 fa fp ta tp irs (firstOf mss now)), .int .i64 0]) ∧ Below w.heap.size w w' := by
  have hT := fun w => cookie_isTime now w
  have hout : outB now 1099511627776 = false := by simp [outB]; omega
  rw [hout] at hT
  have HT := Lib.hid hT
  have hs8 := stepTo_8 mss
  have hf1 : 0 ≤ firstOf mss now := by unfold firstOf; omega
  have hf2 : firstOf mss now ≤ 255 := by unfold firstOf; omega
  have hck : 0 ≤ ckSum k0 k1 fa fp ta tp irs (firstOf mss now) ∧ ckSum k0 k1 fa fp ta tp irs (firstOf mss now) ≤ 16777215 := by unfold ckSum; omega
  have e1 := and_31 (now / 64) (by omega) (by omega)
  have e2 : IntKind.u32.wrap (now / 64 % 32) = now / 64 % 32 := IntWalk.u32_in _ (by omega)
  have e3 : IntKind.u32.wrap (now / 64 % 32 * 8) = now / 64 % 32 * 8 := IntWalk.u32_in _ (by omega)
  have e4 : bits BinOp.or IntKind.u32 (now / 64 % 32 * 8) (stepTo mss 8) = firstOf mss now := or_3 _ _ (by omega) (by omega) hs8.1 (by omega)
  have HSUM := Lib.hid (fun (W : World) (hk : Blk W g 174 (keyC k0 k1)) => cookie_sum g k0 k1 fa fp ta tp irs (firstOf mss now) W hk h0 h0' h1 h1' h2 h2' hf1 hf2)
  have e6 := or_24 (firstOf mss now) (ckSum k0 k1 fa fp ta tp irs (firstOf mss now)) hf1 hf2 hck.1 hck.2
  have e5 : IntKind.u32.wrap (firstOf mss now * 16777216) = firstOf mss now * 16777216 := IntWalk.u32_in _ (by omega)
  generalize ckSum k0 k1 fa fp ta tp irs (firstOf mss now) = cs at HSUM e6 hck ⊢
  generalize firstOf mss now = fi at HSUM e4 e5 e6 hf1 hf2 ⊢
  generalize now / 64 % 32 = x at e1 e2 e3 e4
  have HKK := Lib.hid hK
  clear hT hK hout
  unfold endC at *
  go_enter Try.func77, Try.ntmps77
  go_wp2_with fail
  refine (HT.out _).mono ?_
  rintro e w1 ⟨rfl, rfl⟩
  have hmss : (mss < 8) = False := by simp; omega
  go_wp2_with fail
  refine (cookie_steps _).mono ?_
  rintro e w1 ⟨rfl, hb1⟩
  have hK0 : Blk ((w.alloc (Obj.cells #[Value.int IntKind.u32 fa, Value.int IntKind.i64 fp] 31)).alloc (Obj.cells #[Value.int IntKind.u32 ta, Value.int IntKind.i64 tp] 31)) w.heap.size 31 [Value.int IntKind.u32 fa, Value.int IntKind.i64 fp] := (Blk.new w _ _).alloc _
  have hK1 : Blk ((w.alloc (Obj.cells #[Value.int IntKind.u32 fa, Value.int IntKind.i64 fp] 31)).alloc (Obj.cells #[Value.int IntKind.u32 ta, Value.int IntKind.i64 tp] 31)) (w.heap.size + 1) 31 [Value.int IntKind.u32 ta, Value.int IntKind.i64 tp] := by
    have h := Blk.new (w.alloc (Obj.cells #[Value.int IntKind.u32 fa, Value.int IntKind.i64 fp] 31)) 31 [Value.int IntKind.u32 ta, Value.int IntKind.i64 tp]
    simp only [World.size_alloc] at h
    exact h
  have hKg := (HKK.out.alloc (Obj.cells #[Value.int IntKind.u32 fa, Value.int IntKind.i64 fp] 31)).alloc (Obj.cells #[Value.int IntKind.u32 ta, Value.int IntKind.i64 tp] 31)
  have hO : Below w.heap.size w ((w.alloc (Obj.cells #[Value.int IntKind.u32 fa, Value.int IntKind.i64 fp] 31)).alloc (Obj.cells #[Value.int IntKind.u32 ta, Value.int IntKind.i64 tp] 31)) := by go_grown
  generalize (w.alloc (Obj.cells #[Value.int IntKind.u32 fa, Value.int IntKind.i64 fp] 31)).alloc (Obj.cells #[Value.int IntKind.u32 ta, Value.int IntKind.i64 tp] 31) = w0 at hK0 hK1 hKg hO hb1
  have hO1 := hO.trans (hb1.mono hO.size)
  have hK0 := hK0.below hb1 hK0.lt
  have hK1 := hK1.below hb1 hK1.lt
  have hKg := hKg.below hb1 hKg.lt
  have q0 := hK0.at_ (i := 0) (v := .int .u32 fa) rfl
  have q1 := hK0.at_ (i := 1) (v := .int .i64 fp) rfl
  have q2 := hK1.at_ (i := 0) (v := .int .u32 ta) rfl
  have q3 := hK1.at_ (i := 1) (v := .int .i64 tp) rfl
  have HO1 := Lib.hid hO1
  have HKg := Lib.hid hKg
  have HE := Lib.hid (show _ ∧ _ ∧ _ ∧ _ ∧ _ ∧ _ from ⟨e1, e2, e3, e4, e5, e6⟩)
  clear hO hO1 hK0 hK1 hKg hb1 e1 e2 e3 e4 e5 e6
  generalize hC : stepsC.toArray = C
  have HC := Lib.hid hC
  clear hC
  go_wp2_with fail
  go_loop [14, 26] (fun st i => ∃ k : Nat, k ≤ 8 ∧ i = .int .i64 k ∧ st = .int .u32 (stepTo mss k)) (fun _ i => 8 - (intOf i).toNat)
  case atStart => exact ⟨0, by omega, rfl, rfl⟩
  case round =>
    obtain ⟨k, hk, rfl, rfl⟩ := hrel
    by_cases hlt : k < 8
    · have hix : ∀ W, (Instr.index 175 (.agg C) (.int .i64 (k : Int))).run Try.prog W = .ok (.int .i64 (stepsL.getD k 0)) W := fun W => by rw [← HC.out]; exact steps_index k hlt W
      have hsk : stepTo mss (k + 1) = if stepsL.getD k 0 ≤ mss then (k : Int) else stepTo mss k := rfl
      have hu : IntKind.u32.wrap (k : Int) = (k : Int) := IntWalk.u32_in _ (by omega)
      generalize stepsL.getD k 0 = n at hix hsk
      have HSK := Lib.hid hsk
      clear hsk
      by_cases hle : n ≤ mss
      · go_wp2
        go_round
        case rel => exact ⟨k + 1, by omega, by go_num, by rw [HSK.out, if_pos hle]⟩
        case measure => simp only [intOf]; omega
      · go_wp2
        go_round
        case rel => exact ⟨k + 1, by omega, by go_num, by rw [HSK.out, if_neg hle]⟩
        case measure => simp only [intOf]; omega
    · obtain rfl : k = 8 := by omega
      obtain ⟨e1, e2, e3, e4, e5, e6⟩ := HE.out
      generalize stepTo mss 8 = st at e4 ⊢
      go_wp2_with fail
      refine (HSUM.out _ HKg.out).mono ?_
      rintro e w2 ⟨rfl, hb2⟩
      have HO2 := Lib.hid (HO1.out.trans (hb2.mono HO1.out.size))
      clear hb2
      go_wp2
      go_ret2
      exact ⟨rfl, HO2.out⟩
end Go.Proofs.Ytmbjinfeinhalaa
