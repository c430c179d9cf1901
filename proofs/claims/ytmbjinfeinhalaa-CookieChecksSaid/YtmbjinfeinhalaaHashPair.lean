/- Package hash: Pair; the reference's. -/
import Derived.Test.YtmbjinfeinhalaaHashRefSip
import Derived.Test.YtmbjinfeinhalaaWire3
import Derived.Test.YtmbjinfeinhalaaQuietC
namespace Go.Proofs.Ytmbjinfeinhalaa
open Go.RowKit
set_option linter.unusedVariables false

def endC (a p : Int) : List Value := [.int .u32 a, .int .i64 p]
/-- The bytes of two ends. -/
def pairL (fa fp ta tp : Int) : List UInt8 := bigL fa 4 ++ bigL (fp % 65536) 2 ++ bigL ta 4 ++ bigL (tp % 65536) 2
theorem pairL_length (fa fp ta tp : Int) : (pairL fa fp ta tp).length = 12 := by simp [pairL, bigL_length]

set_option maxRecDepth 100000 in
set_option maxHeartbeats 1000000 in
theorem hash_Pair (k0 k1 fa fp ta tp : Int) (w : World) (h0 : 0 ≤ fa) (h0' : fa ≤ 4294967295) (h1 : 0 ≤ ta) (h1' : ta ≤ 4294967295) :
    Calls Try.prog 38 #[.int .u64 k0, .int .u64 k1, .agg (endC fa fp).toArray, .agg (endC ta tp).toArray] w fun e w' => e = .returned (.int .u64 (sipF k0 k1 (pairL fa fp ta tp))) ∧ Below w.heap.size w w' := by
  have i0 : ∀ W, (Instr.index 146 (.agg #[.int .u32 fa, .int .i64 fp, .int .u32 ta, .int .i64 tp]) (.int .i64 0)).run Try.prog W = .ok (.agg #[.int .u32 fa, .int .i64 fp]) W := fun _ => by kernel_rfl
  have i1 : ∀ W, (Instr.index 146 (.agg #[.int .u32 fa, .int .i64 fp, .int .u32 ta, .int .i64 tp]) (.int .i64 1)).run Try.prog W = .ok (.agg #[.int .u32 ta, .int .i64 tp]) W := fun _ => by kernel_rfl
  have e1 := u16_wrap fp
  have e2 := u16_wrap tp
  have HSIP := Lib.hid (fun W => hash_Sip k0 k1 (bs (pairL fa fp ta tp)) W (by rw [bs_size, pairL_length]; omega))
  rw [bs_data] at HSIP
  generalize sipF k0 k1 (pairL fa fp ta tp) = r at HSIP ⊢
  unfold endC
  go_enter Try.func38, Try.ntmps38
  go_wp2_with fail
  refine wp_loop_rounds 3 ?_
  rw [rounds_succ]
  go_wp2_with fail
  have hE : Blk (((w.alloc (Obj.cells #[Value.int IntKind.u32 fa, Value.int IntKind.i64 fp] 31)).alloc (Obj.cells #[Value.int IntKind.u32 ta, Value.int IntKind.i64 tp] 31)).alloc (Obj.cells #[Value.int IntKind.u32 fa, Value.int IntKind.i64 fp] 31)) (w.heap.size + 1 + 1) 31 [Value.int IntKind.u32 fa, Value.int IntKind.i64 fp] := by
    have h := Blk.new ((w.alloc (Obj.cells #[Value.int IntKind.u32 fa, Value.int IntKind.i64 fp] 31)).alloc (Obj.cells #[Value.int IntKind.u32 ta, Value.int IntKind.i64 tp] 31)) 31 [Value.int IntKind.u32 fa, Value.int IntKind.i64 fp]
    simp only [World.size_alloc] at h
    exact h
  have hO : Below w.heap.size w (((w.alloc (Obj.cells #[Value.int IntKind.u32 fa, Value.int IntKind.i64 fp] 31)).alloc (Obj.cells #[Value.int IntKind.u32 ta, Value.int IntKind.i64 tp] 31)).alloc (Obj.cells #[Value.int IntKind.u32 fa, Value.int IntKind.i64 fp] 31)) := by go_grown
  generalize (((w.alloc (Obj.cells #[Value.int IntKind.u32 fa, Value.int IntKind.i64 fp] 31)).alloc (Obj.cells #[Value.int IntKind.u32 ta, Value.int IntKind.i64 tp] 31)).alloc (Obj.cells #[Value.int IntKind.u32 fa, Value.int IntKind.i64 fp] 31)) = w1 at hE hO ⊢
  generalize w.heap.size + 1 + 1 = g1 at hE ⊢
  obtain ⟨B, hB⟩ : ∃ B, B = w1.heap.size := ⟨_, rfl⟩
  have hBw : w.heap.size ≤ B := by rw [hB]; exact hO.size
  have hBle : B ≤ w1.heap.size := Nat.le_of_eq hB
  clear hB
  refine (wire_Append32G B _ [] _ _ hBle (Row.nil _ _) (by simp) (by omega) (by omega)).mono ?_
  rintro e w2 ⟨v2, rfl, hv2, hg2, ha2⟩
  have hE2 := hE.grown hg2 (by simp [Value.ownBlock])
  have hO2 := hO.trans ((below_grown hg2 (fun k hk => by simp [Value.ownBlock] at hk) hBle).mono hBw)
  have hB2 := Nat.le_trans hBle hg2.size
  have c1 := hE2.at_ (i := 1) (v := .int .i64 fp) rfl
  have HR2 := Lib.hid hv2
  have HO2 := Lib.hid hO2
  clear hE hO hE2 hO2 hv2 hg2 ha2
  go_wp2_with fail
  refine (wire_Append16G B v2 _ _ _ hB2 HR2.out (by simp [bigL_length]) (by omega) (by omega)).mono ?_
  rintro e w3 ⟨v3, rfl, hv3, hg3, ha3⟩
  have hO3 := HO2.out.trans ((below_grown hg3 (fun k hk => (HR2.out.lt k hk).1) hB2).mono hBw)
  have hB3 := Nat.le_trans hB2 hg3.size
  have HR3 := Lib.hid hv3
  have HO3 := Lib.hid hO3
  clear hv3 hg3 ha3 hO3 HO2 HR2 c1
  go_wp2_with fail
  rw [rounds_succ]
  go_wp2_with fail
  have hE4 : Blk (w3.alloc (Obj.cells #[Value.int IntKind.u32 ta, Value.int IntKind.i64 tp] 31)) w3.heap.size 31 [Value.int IntKind.u32 ta, Value.int IntKind.i64 tp] := Blk.new w3 _ _
  have hB4 : B ≤ (w3.alloc (Obj.cells #[Value.int IntKind.u32 ta, Value.int IntKind.i64 tp] 31)).heap.size := by simp; omega
  have hO4 := HO3.out.trans (below_alloc (B := w.heap.size) (w := w3) (Obj.cells #[Value.int IntKind.u32 ta, Value.int IntKind.i64 tp] 31) HO3.out.size)
  have hv4 := World.ownsRow.alloc HR3.out (Obj.cells #[Value.int IntKind.u32 ta, Value.int IntKind.i64 tp] 31)
  refine (wire_Append32G B v3 _ _ _ hB4 hv4 (by simp [bigL_length]) (by omega) (by omega)).mono ?_
  rintro e w5 ⟨v5, rfl, hv5, hg5, ha5⟩
  have hE5 := hE4.grown hg5 (fun e => by have := (HR3.out.lt _ e.symm).2; omega)
  have hO5 := hO4.trans ((below_grown hg5 (fun k hk => (HR3.out.lt k hk).1) hB4).mono hBw)
  have hB5 := Nat.le_trans hB4 hg5.size
  have c5 := hE5.at_ (i := 1) (v := .int .i64 tp) rfl
  have HR5 := Lib.hid hv5
  have HO5 := Lib.hid hO5
  clear hE4 hB4 hO4 hv4 hE5 hO5 hv5 hg5 ha5 HO3 HR3
  go_wp2_with fail
  refine (wire_Append16G B v5 _ _ _ hB5 HR5.out (by simp [bigL_length]) (by omega) (by omega)).mono ?_
  rintro e w6 ⟨v6, rfl, hv6, hg6, ha6⟩
  have hO6 := HO5.out.trans ((below_grown hg6 (fun k hk => (HR5.out.lt k hk).1) hB5).mono hBw)
  have hv6 : Row w6 B v6 (pairL fa fp ta tp) := by simpa [pairL] using hv6
  obtain ⟨g6, cap6, cs6, hvv, hBg, hK6, hc1, hc2, hcl, hct⟩ := hv6.blk (by rw [pairL_length]; omega)
  rw [pairL_length] at hvv hct
  have hcv : Sem.run Try.prog (convert 123 9 (.slice (some ⟨g6, 0, none⟩) 12 cap6)) w6 = .ok (.string (bs (pairL fa fp ta tp))) w6 := by
    refine conv_row _ _ _ _ _ (fun j u hu => ?_) (pairL_length _ _ _ _).symm
    rw [hK6.cell j]
    rw [← hct, List.getElem?_take] at hu
    split at hu
    · exact hu
    · cases hu
  have HO6 := Lib.hid hO6
  clear hv6 hg6 ha6 hO6 hK6 hct hcl HO5 HR5 c5
  subst hvv
  generalize bs (pairL fa fp ta tp) = t at hcv HSIP
  go_wp2_with fail
  rw [rounds_succ]
  go_wp2_with fail
  refine (HSIP.out _).mono ?_
  rintro e w7 ⟨rfl, hb7⟩
  have HO7 := Lib.hid (HO6.out.trans (hb7.mono HO6.out.size))
  clear hb7
  go_wp2_with fail
  go_ret
  exact ⟨rfl, HO7.out⟩

/-- The closure: a port's two bytes. -/
theorem ref_port (a p : Int) (w : World) (hp : -9223372036854775808 ≤ p) (hp' : p ≤ 9223372036854775807) :
    Calls Try.prog 116 #[.agg (endC a p).toArray] w fun e w' => e = .returned (.string (bs (bigL (p % 65536) 2))) ∧ Below w.heap.size w w' := by
  have c1 := fun w => ref_Rest p 65536 w (by omega) (by omega) (by omega) (by omega)
  have c2 := fun w => ref_big 2 (p % 65536) w (by omega) (by omega) (by omega)
  generalize bs (bigL (p % 65536) 2) = r at c2 ⊢
  have hm1 : 0 ≤ p % 65536 := by omega
  have hm2 : p % 65536 ≤ 65535 := by omega
  generalize p % 65536 = m at c1 c2 hm1 hm2
  have H1 := Lib.hid c1
  have H2 := Lib.hid c2
  clear c1 c2
  unfold endC
  go_enter Try.func116, Try.ntmps116
  go_wp2_with fail
  refine (H1.out _).mono ?_
  rintro e w1 ⟨rfl, rfl⟩
  go_wp2_with fail
  refine (H2.out _).mono ?_
  rintro e w2 ⟨rfl, hb2⟩
  have HB := Lib.hid hb2
  clear hb2
  go_wp2_with fail
  go_ret
  exact ⟨rfl, (below_alloc _ (Nat.le_refl _)).trans (HB.out.mono (by simp))⟩

set_option maxRecDepth 100000 in
set_option maxHeartbeats 1000000 in
theorem ref_HashPair (k0 k1 fa fp ta tp : Int) (w : World) (h0 : 0 ≤ fa) (h0' : fa ≤ 4294967295) (h1 : 0 ≤ ta) (h1' : ta ≤ 4294967295) (h2 : -9223372036854775808 ≤ fp) (h2' : fp ≤ 9223372036854775807) (h3 : -9223372036854775808 ≤ tp) (h3' : tp ≤ 9223372036854775807) :
    Calls Try.prog 39 #[.int .u64 k0, .int .u64 k1, .agg (endC fa fp).toArray, .agg (endC ta tp).toArray] w fun e w' => e = .returned (.int .u64 (sipF k0 k1 (pairL fa fp ta tp))) ∧ Below w.heap.size w w' := by
  have c1 := fun w => ref_big 4 fa w (by omega) (by omega) (by omega)
  have c2 := fun w => ref_port fa fp w h2 h2'
  have c3 := fun w => ref_big 4 ta w (by omega) (by omega) (by omega)
  have c4 := fun w => ref_port ta tp w h3 h3'
  have c5 := fun w => ref_SipHash k0 k1 (bs (pairL fa fp ta tp)) w (by rw [bs_size, pairL_length]; omega)
  rw [bs_data] at c5
  have z1 : (bs (bigL fa 4)).size ≤ 4 := by simp [bs_size, bigL_length]
  have z2 : (bs (bigL (fp % 65536) 2)).size ≤ 2 := by simp [bs_size, bigL_length]
  have z3 : (bs (bigL ta 4)).size ≤ 4 := by simp [bs_size, bigL_length]
  have z4 : (bs (bigL (tp % 65536) 2)).size ≤ 2 := by simp [bs_size, bigL_length]
  have hall : bs (pairL fa fp ta tp) = bs (bigL fa 4) ++ bs (bigL (fp % 65536) 2) ++ bs (bigL ta 4) ++ bs (bigL (tp % 65536) 2) := by simp [bs_append, pairL]
  rw [hall] at c5
  generalize bs (bigL fa 4) = a1 at c1 z1 c5
  generalize bs (bigL (fp % 65536) 2) = a2 at c2 z2 c5
  generalize bs (bigL ta 4) = a3 at c3 z3 c5
  generalize bs (bigL (tp % 65536) 2) = a4 at c4 z4 c5
  generalize sipF k0 k1 (pairL fa fp ta tp) = r at c5 ⊢
  have H1 := Lib.hid c1
  have H2 := Lib.hid c2
  have H3 := Lib.hid c3
  have H4 := Lib.hid c4
  have H5 := Lib.hid c5
  clear c1 c2 c3 c4 c5 hall
  unfold endC at *
  go_enter Try.func39, Try.ntmps39
  go_wp2_with fail
  have hK0 : Blk ((w.alloc (Obj.cells #[Value.int IntKind.u32 fa, Value.int IntKind.i64 fp] 31)).alloc (Obj.cells #[Value.int IntKind.u32 ta, Value.int IntKind.i64 tp] 31)) w.heap.size 31 [Value.int IntKind.u32 fa, Value.int IntKind.i64 fp] := (Blk.new w _ _).alloc _
  have hK1 : Blk ((w.alloc (Obj.cells #[Value.int IntKind.u32 fa, Value.int IntKind.i64 fp] 31)).alloc (Obj.cells #[Value.int IntKind.u32 ta, Value.int IntKind.i64 tp] 31)) (w.heap.size + 1) 31 [Value.int IntKind.u32 ta, Value.int IntKind.i64 tp] := by
    have h := Blk.new (w.alloc (Obj.cells #[Value.int IntKind.u32 fa, Value.int IntKind.i64 fp] 31)) 31 [Value.int IntKind.u32 ta, Value.int IntKind.i64 tp]
    simp only [World.size_alloc] at h
    exact h
  have hO : Below w.heap.size w ((w.alloc (Obj.cells #[Value.int IntKind.u32 fa, Value.int IntKind.i64 fp] 31)).alloc (Obj.cells #[Value.int IntKind.u32 ta, Value.int IntKind.i64 tp] 31)) := by go_grown
  generalize (w.alloc (Obj.cells #[Value.int IntKind.u32 fa, Value.int IntKind.i64 fp] 31)).alloc (Obj.cells #[Value.int IntKind.u32 ta, Value.int IntKind.i64 tp] 31) = w1 at hK0 hK1 hO ⊢
  have q0 := Kin.cell (hK0.at_ (i := 0) (v := .int .u32 fa) rfl)
  have q1 := Kin.cell (hK0.at_ (i := 1) (v := .int .i64 fp) rfl)
  have q2 := Kin.cell (hK1.at_ (i := 0) (v := .int .u32 ta) rfl)
  have q3 := Kin.cell (hK1.at_ (i := 1) (v := .int .i64 tp) rfl)
  have HO := Lib.hid hO
  clear hK0 hK1 hO
  refine wp_region_kin (by kernel_rfl) (by kernel_rfl) ?_
  repeat go_big_quiet_step ((first
    | (go_at_call 102; first | (with_reducible exact kin_made (H1.out _)) | (with_reducible exact kin_made (H3.out _)))
    | (go_at_call 116; first | exact kin_made (H2.out _) | exact kin_made (H4.out _))
    | (go_at_call 117; exact kin_made (H5.out _))))
  refine wpQuiet_nil ?_
  intro q
  have hO2 := HO.out.trans (q.below.mono HO.out.size)
  clear q0 q1 q2 q3
  generalize q.at_ = w2 at hO2 ⊢
  go_wp2
  go_ret
  exact ⟨rfl, hO2⟩
end Go.Proofs.Ytmbjinfeinhalaa
