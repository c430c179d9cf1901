/- The reference's ports, of two ends; package udp: Check; the reference's. -/
import Derived.Test.YtmbjinfeinhalaaWire2
namespace Go.Proofs.Ytmbjinfeinhalaa
open Go.RowKit
set_option linter.unusedVariables false

/-- Is it a port? -/
def portB (n : Int) : Bool := decide (0 < n) && decide (n ≤ 65535)
theorem portB_true {n : Int} (h : portB n = true) : 1 ≤ n ∧ n ≤ 65535 := by simp [portB] at h; omega
theorem portB_false {n : Int} (h : portB n = false) : n < 1 ∨ 65535 < n := by simp [portB] at h; omega
theorem ref_outsideP (n : Int) (w : World) : Calls Try.prog 105 #[.int .i64 n, .int .i64 1, .int .i64 65535] w fun e w' => e = .returned (.bool (!portB n)) ∧ w = w' :=
  (ref_outside n 1 65535 w).mono fun e w' ⟨he, hw⟩ => ⟨he.trans (ret_bool (by rw [Bool.eq_iff_iff]; simp [portB]; omega)), hw⟩
theorem udp_isPort (n : Int) (w : World) : Calls Try.prog 108 #[.int .i64 n] w fun e w' => e = .returned (.bool (portB n)) ∧ w = w' := by
  by_cases h : 0 < n
  · go_enter Try.func108, Try.ntmps108
    go_wp2
    go_ret
    exact ⟨ret_bool (by simp [portB, h]), rfl⟩
  · go_enter Try.func108, Try.ntmps108
    go_wp2
    go_ret
    exact ⟨ret_bool (by simp [portB]; omega), rfl⟩

set_option maxRecDepth 100000 in
theorem ref_ports2 (g : Nat) (cap : Nat) (a1 p1 a2 p2 : Int) (w : World) (h0 : w.cell? ⟨g, 0, none⟩ = some (.int .u32 a1)) (h1 : w.cell? ⟨g, 1, none⟩ = some (.int .i64 p1)) (h2 : w.cell? ⟨g, 2, none⟩ = some (.int .u32 a2)) (h3 : w.cell? ⟨g, 3, none⟩ = some (.int .i64 p2)) :
    Calls Try.prog 109 #[.slice (some ⟨g, 0, none⟩) 2 cap] w fun e w' => e = .returned (.bool (portB p1 && portB p2)) ∧ Below w.heap.size w w' := by
  have hg : g < w.heap.size := World.block_lt_of_cell? w _ h0
  have key : (portB p1 = false ∧ Hid ((portB p1 && portB p2) = false)) ∨ (portB p1 = true ∧ portB p2 = false ∧ Hid ((portB p1 && portB p2) = false)) ∨ (portB p1 = true ∧ portB p2 = true ∧ Hid ((portB p1 && portB p2) = true)) := by
    unfold Hid
    cases portB p1 <;> cases portB p2 <;> simp
  rcases key with ⟨k1, HK⟩ | ⟨k1, k2, HK⟩ | ⟨k1, k2, HK⟩
  all_goals
    rw [HK.out]
    go_enter Try.func109, Try.ntmps109
    go_wp2_with fail
    refine wp_loop_rounds 3 ?_
    rw [rounds_succ]
    go_wp2_with (go_at_call 105; refine (ref_outsideP _ _).mono ?_; rintro e w' ⟨rfl, rfl⟩)
    try rw [rounds_succ]
    try go_wp2_with (go_at_call 105; refine (ref_outsideP _ _).mono ?_; rintro e w' ⟨rfl, rfl⟩)
    try rw [rounds_succ]
    try go_wp2_with fail
    go_ret
    exact ⟨rfl, by go_grown⟩

/-- The cells of a datagram. -/
def gramC (fa fp ta tp : Int) (body : ByteArray) : List Value := [.int .u32 fa, .int .i64 fp, .int .u32 ta, .int .i64 tp, .string body]
/-- Check: which error. -/
def udpChk (fp tp : Int) (n : Nat) : Int := if portB fp = false ∨ portB tp = false then 1 else if 1000 < n then 2 else 0
theorem udpChk_cases (fp tp : Int) (n : Nat) :
    (portB fp = false ∧ Hid (udpChk fp tp n = 1)) ∨ (portB fp = true ∧ portB tp = false ∧ Hid (udpChk fp tp n = 1)) ∨
    (portB fp = true ∧ portB tp = true ∧ 1000 < n ∧ Hid (udpChk fp tp n = 2)) ∨ (portB fp = true ∧ portB tp = true ∧ n ≤ 1000 ∧ Hid (udpChk fp tp n = 0)) := by
  unfold udpChk Hid
  cases portB fp <;> cases portB tp <;> simp
  omega
theorem udpChk_zero {fp tp : Int} {n : Nat} (h : udpChk fp tp n = 0) : portB fp = true ∧ portB tp = true ∧ n ≤ 1000 := by
  have k := udpChk_cases fp tp n
  unfold Hid at k
  rw [h] at k
  simpa using k
theorem udpChk_other {fp tp : Int} {n : Nat} (h : udpChk fp tp n ≠ 0) : udpChk fp tp n = 1 ∨ udpChk fp tp n = 2 := by
  have k := udpChk_cases fp tp n
  unfold Hid at k
  rcases k with ⟨_, k⟩ | ⟨_, _, k⟩ | ⟨_, _, _, k⟩ | ⟨_, _, _, k⟩
  · exact .inl k
  · exact .inl k
  · exact .inr k
  · exact absurd k h

theorem udp_Check (fa fp ta tp : Int) (body : ByteArray) (w : World) (hb : body.size ≤ 9223372036854775807) :
    Calls Try.prog 21 #[.agg (gramC fa fp ta tp body).toArray] w fun e w' => e = .returned (.int .i64 (udpChk fp tp body.size)) ∧ Below w.heap.size w w' := by
  unfold gramC
  rcases udpChk_cases fp tp body.size with ⟨h1, HE⟩ | ⟨h1, h2, HE⟩ | ⟨h1, h2, h3, HE⟩ | ⟨h1, h2, h3, HE⟩
  all_goals
    go_enter Try.func21, Try.ntmps21
    go_wp2_with (go_at_call 108; refine (udp_isPort _ _).mono ?_; rintro e w' ⟨rfl, rfl⟩)
    go_ret
    exact ⟨ret_int HE.out.symm, by go_grown⟩

set_option maxRecDepth 100000 in
theorem ref_UdpCheck (fa fp ta tp : Int) (body : ByteArray) (w : World) (hb : body.size ≤ 9223372036854775807) :
    Calls Try.prog 22 #[.agg (gramC fa fp ta tp body).toArray] w fun e w' => e = .returned (.int .i64 (udpChk fp tp body.size)) ∧ Below w.heap.size w w' := by
  unfold gramC
  rcases udpChk_cases fp tp body.size with ⟨h1, HE⟩ | ⟨h1, h2, HE⟩ | ⟨h1, h2, h3, HE⟩ | ⟨h1, h2, h3, HE⟩
  all_goals
    go_enter Try.func22, Try.ntmps22
    go_wp2_with fail
    have hS0 := St.start w 33 (gramC fa fp ta tp body)
    change St _ _ _ _ _ (w.alloc (Obj.cells #[Value.int IntKind.u32 fa, Value.int IntKind.i64 fp, Value.int IntKind.u32 ta, Value.int IntKind.i64 tp, Value.string body] 33)) at hS0
    have hz : (w.alloc (Obj.cells #[Value.int IntKind.u32 fa, Value.int IntKind.i64 fp, Value.int IntKind.u32 ta, Value.int IntKind.i64 tp, Value.string body] 33)).heap.size = w.heap.size + 1 := by simp
    generalize w.alloc (Obj.cells #[Value.int IntKind.u32 fa, Value.int IntKind.i64 fp, Value.int IntKind.u32 ta, Value.int IntKind.i64 tp, Value.string body] 33) = W0 at hS0 hz ⊢
    have hK : Blk (W0.alloc (Obj.cells #[Value.int IntKind.u32 fa, Value.int IntKind.i64 fp, Value.int IntKind.u32 ta, Value.int IntKind.i64 tp] 31)) (w.heap.size + 1) 31 [Value.int IntKind.u32 fa, Value.int IntKind.i64 fp, Value.int IntKind.u32 ta, Value.int IntKind.i64 tp] := by
      have h := Blk.new W0 31 [Value.int IntKind.u32 fa, Value.int IntKind.i64 fp, Value.int IntKind.u32 ta, Value.int IntKind.i64 tp]
      rwa [hz] at h
    have hS1 := hS0.alloc (Obj.cells #[Value.int IntKind.u32 fa, Value.int IntKind.i64 fp, Value.int IntKind.u32 ta, Value.int IntKind.i64 tp] 31)
    refine (ref_ports2 _ _ fa fp ta tp _ (hK.at_ rfl) (hK.at_ rfl) (hK.at_ rfl) (hK.at_ rfl)).mono ?_
    rintro e w1 ⟨rfl, hb1⟩
    have hS2 := hS1.made hb1
    have k4 : w1.cell? ⟨w.heap.size, 4, none⟩ = some (.string body) := hS2.blk.at_ rfl
    have HS2 := Lib.hid hS2
    clear hS0 hS1 hS2 hz hK hb1
    go_wp2
    go_ret
    exact ⟨ret_int HE.out.symm, HS2.out.bel⟩
end Go.Proofs.Ytmbjinfeinhalaa
