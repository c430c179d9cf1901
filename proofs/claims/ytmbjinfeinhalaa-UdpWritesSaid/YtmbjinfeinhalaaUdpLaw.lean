/- The law UdpWrites: its walk. -/
import Derived.Test.YtmbjinfeinhalaaUdpRef
import Derived.Test.YtmbjinfeinhalaaLawLift
namespace Go.Proofs.Ytmbjinfeinhalaa
open Go.RowKit
set_option linter.unusedVariables false

def gramLeaves : List Leaf := [(some (some .u32)), (some (some .i64)), (some (some .u32)), (some (some .i64)), none]
theorem gram_open {l : List Value} (h : leafAll gramLeaves l) : ∃ (fa : Int) (fp : Int) (ta : Int) (tp : Int) (body : ByteArray), l = gramC fa fp ta tp body ∧ (0 ≤ fa ∧ fa ≤ 4294967295) ∧ (-9223372036854775808 ≤ fp ∧ fp ≤ 9223372036854775807) ∧ (0 ≤ ta ∧ ta ≤ 4294967295) ∧ (-9223372036854775808 ≤ tp ∧ tp ≤ 9223372036854775807) ∧ (body.size ≤ 9223372036854775807) := by
  unfold gramLeaves at h
  rcases l with _ | ⟨v0, l⟩
  · exact h.elim
  obtain ⟨h0, h⟩ := h
  obtain ⟨fa, rfl, w0⟩ := h0
  have b0 := bounds_u32 w0
  rcases l with _ | ⟨v1, l⟩
  · exact h.elim
  obtain ⟨h1, h⟩ := h
  obtain ⟨fp, rfl, w1⟩ := h1
  have b1 := bounds_i64 w1
  rcases l with _ | ⟨v2, l⟩
  · exact h.elim
  obtain ⟨h2, h⟩ := h
  obtain ⟨ta, rfl, w2⟩ := h2
  have b2 := bounds_u32 w2
  rcases l with _ | ⟨v3, l⟩
  · exact h.elim
  obtain ⟨h3, h⟩ := h
  obtain ⟨tp, rfl, w3⟩ := h3
  have b3 := bounds_i64 w3
  rcases l with _ | ⟨v4, l⟩
  · exact h.elim
  obtain ⟨h4, h⟩ := h
  obtain ⟨body, rfl, b4⟩ := h4
  rcases l with _ | ⟨v, l⟩
  · exact ⟨fa, fp, ta, tp, body, rfl, b0, b1, b2, b3, (by unfold maxLen at b4; exact b4)⟩
  · exact h.elim

theorem udp_both (fa fp ta tp : Int) (body : ByteArray) (h0 : 0 ≤ fa) (h0' : fa ≤ 4294967295) (h1 : 0 ≤ ta) (h1' : ta ≤ 4294967295) (hb : body.size ≤ 9223372036854775807) :
    ∃ (s : ByteArray) (er ck : Int), (∀ w, Calls Try.prog 19 #[.agg (gramC fa fp ta tp body).toArray] w fun e w' => e = .returned (.tuple #[.string s, .int .i64 er]) ∧ Below w.heap.size w w') ∧
      (∀ w, Calls Try.prog 20 #[.agg (gramC fa fp ta tp body).toArray] w fun e w' => e = .returned (.tuple #[.string s, .int .i64 er]) ∧ Below w.heap.size w w') ∧
      (∀ w, Calls Try.prog 21 #[.agg (gramC fa fp ta tp body).toArray] w fun e w' => e = .returned (.int .i64 ck) ∧ Below w.heap.size w w') ∧
      (∀ w, Calls Try.prog 22 #[.agg (gramC fa fp ta tp body).toArray] w fun e w' => e = .returned (.int .i64 ck) ∧ Below w.heap.size w w') := by
  by_cases hok : udpChk fp tp body.size = 0
  · obtain ⟨k1, k2, k3⟩ := udpChk_zero hok
    have k1 := portB_true k1
    have k2 := portB_true k2
    exact ⟨_, 0, _, fun w => udp_Write_ok fa fp ta tp body w h0 h0' h1 h1' k1.1 k1.2 k2.1 k2.2 k3, fun w => ref_UdpWrite_ok fa fp ta tp body w h0 h0' h1 h1' k1.1 k1.2 k2.1 k2.2 k3,
      fun w => udp_Check fa fp ta tp body w hb, fun w => ref_UdpCheck fa fp ta tp body w hb⟩
  · have hne := udpChk_other hok
    exact ⟨_, _, _, fun w => udp_Write_no fa fp ta tp body _ w hb rfl hne, fun w => ref_UdpWrite_no fa fp ta tp body _ w hb rfl hne,
      fun w => udp_Check fa fp ta tp body w hb, fun w => ref_UdpCheck fa fp ta tp body w hb⟩

set_option maxRecDepth 100000 in
theorem walk_udpWrites (w : World) (c : Array Value) (lf : leafAll gramLeaves c.toList) :
    Calls Try.prog 4 #[.agg c] w fun e w' => e = .returned (.bool true) ∧ Below w.heap.size w w' := by
  obtain ⟨l⟩ := c
  obtain ⟨fa, fp, ta, tp, body, rfl, ⟨fa_a, fa_b⟩, ⟨fp_a, fp_b⟩, ⟨ta_a, ta_b⟩, ⟨tp_a, tp_b⟩, body_a⟩ := gram_open lf
  clear lf
  obtain ⟨s, er, ck, c1, c2, c3, c4⟩ := udp_both fa fp ta tp body fa_a fa_b ta_a ta_b body_a
  have H1 := Lib.hid c1
  have H2 := Lib.hid c2
  have H3 := Lib.hid c3
  have H4 := Lib.hid c4
  clear c1 c2 c3 c4
  unfold gramC
  go_enter Try.func4, Try.ntmps4
  go_wp2_with fail
  have hS0 := St.start w 33 (gramC fa fp ta tp body)
  change St _ _ _ _ _ (w.alloc (Obj.cells #[Value.int IntKind.u32 fa, Value.int IntKind.i64 fp, Value.int IntKind.u32 ta, Value.int IntKind.i64 tp, Value.string body] 33)) at hS0
  generalize w.alloc (Obj.cells #[Value.int IntKind.u32 fa, Value.int IntKind.i64 fp, Value.int IntKind.u32 ta, Value.int IntKind.i64 tp, Value.string body] 33) = W0 at hS0 ⊢
  generalize hBB : w.heap.size + 1 = B at hS0 ⊢
  generalize hg : w.heap.size = g at hS0 ⊢
  have HG := Lib.hid hg
  clear hg hBB
  refine (H1.out _).mono ?_
  rintro e w1 ⟨rfl, hb1⟩
  have hS1 := hS0.made hb1
  obtain ⟨k0, k1, k2, k3, k4⟩ := gram_cells hS1.blk
  have HS1 := Lib.hid hS1
  clear hS0 hS1 hb1
  go_wp2_with fail
  refine (H2.out _).mono ?_
  rintro e w2 ⟨rfl, hb2⟩
  have hS2 := HS1.out.made hb2
  clear k0 k1 k2 k3 k4 HS1 hb2
  obtain ⟨k0, k1, k2, k3, k4⟩ := gram_cells hS2.blk
  have q0 := Kin.cell k0
  have q1 := Kin.cell k1
  have q2 := Kin.cell k2
  have q3 := Kin.cell k3
  have q4 := Kin.cell k4
  have HS2 := Lib.hid hS2
  clear hS2
  go_wp2_with fail
  refine wp_region_kin (by kernel_rfl) (by kernel_rfl) ?_
  repeat go_big_quiet_step ((first | (go_at_call 21; exact kin_made (H3.out _)) | (go_at_call 22; exact kin_made (H4.out _))))
  refine wpQuiet_nil ?_
  intro q
  have hS3 := HS2.out.made q.below
  clear q0 q1 q2 q3 q4 k0 k1 k2 k3 k4
  generalize q.at_ = w3 at hS3 ⊢
  go_wp2
  go_ret
  exact ⟨by simp, hS3.bel.mono (by rw [HG.out]; omega)⟩
end Go.Proofs.Ytmbjinfeinhalaa
