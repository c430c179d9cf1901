/- The law IpWrites: its walk. -/
import Derived.Test.YtmbjinfeinhalaaIpRef
import Derived.Test.YtmbjinfeinhalaaLawLift
namespace Go.Proofs.Ytmbjinfeinhalaa
open Go.RowKit
set_option linter.unusedVariables false

def pktLeaves : List Leaf := [(some (some .u32)), (some (some .u32)), (some (some .i64)), (some (some .i64)), (some (some .i64)), (some none), (some none), (some (some .i64)), none]
theorem pkt_open {l : List Value} (h : leafAll pktLeaves l) : ∃ (src : Int) (dst : Int) (proto : Int) (ttl : Int) (id : Int) (dont : Bool) (more : Bool) (off : Int) (body : ByteArray), l = pktC src dst proto ttl id dont more off body ∧ (0 ≤ src ∧ src ≤ 4294967295) ∧ (0 ≤ dst ∧ dst ≤ 4294967295) ∧ (-9223372036854775808 ≤ proto ∧ proto ≤ 9223372036854775807) ∧ (-9223372036854775808 ≤ ttl ∧ ttl ≤ 9223372036854775807) ∧ (-9223372036854775808 ≤ id ∧ id ≤ 9223372036854775807) ∧ (-9223372036854775808 ≤ off ∧ off ≤ 9223372036854775807) ∧ (body.size ≤ 9223372036854775807) := by
  unfold pktLeaves at h
  rcases l with _ | ⟨v0, l⟩
  · exact h.elim
  obtain ⟨h0, h⟩ := h
  obtain ⟨src, rfl, w0⟩ := h0
  have b0 := bounds_u32 w0
  rcases l with _ | ⟨v1, l⟩
  · exact h.elim
  obtain ⟨h1, h⟩ := h
  obtain ⟨dst, rfl, w1⟩ := h1
  have b1 := bounds_u32 w1
  rcases l with _ | ⟨v2, l⟩
  · exact h.elim
  obtain ⟨h2, h⟩ := h
  obtain ⟨proto, rfl, w2⟩ := h2
  have b2 := bounds_i64 w2
  rcases l with _ | ⟨v3, l⟩
  · exact h.elim
  obtain ⟨h3, h⟩ := h
  obtain ⟨ttl, rfl, w3⟩ := h3
  have b3 := bounds_i64 w3
  rcases l with _ | ⟨v4, l⟩
  · exact h.elim
  obtain ⟨h4, h⟩ := h
  obtain ⟨id, rfl, w4⟩ := h4
  have b4 := bounds_i64 w4
  rcases l with _ | ⟨v5, l⟩
  · exact h.elim
  obtain ⟨h5, h⟩ := h
  obtain ⟨dont, rfl⟩ := h5
  rcases l with _ | ⟨v6, l⟩
  · exact h.elim
  obtain ⟨h6, h⟩ := h
  obtain ⟨more, rfl⟩ := h6
  rcases l with _ | ⟨v7, l⟩
  · exact h.elim
  obtain ⟨h7, h⟩ := h
  obtain ⟨off, rfl, w7⟩ := h7
  have b7 := bounds_i64 w7
  rcases l with _ | ⟨v8, l⟩
  · exact h.elim
  obtain ⟨h8, h⟩ := h
  obtain ⟨body, rfl, b8⟩ := h8
  rcases l with _ | ⟨v, l⟩
  · exact ⟨src, dst, proto, ttl, id, dont, more, off, body, rfl, b0, b1, b2, b3, b4, b7, (by unfold maxLen at b8; exact b8)⟩
  · exact h.elim

/-- Whatever the packet: both write the same, both say the same of it. -/
theorem ip_both (src dst proto ttl id : Int) (dont more : Bool) (off : Int) (body : ByteArray) (h0 : 0 ≤ src) (h0' : src ≤ 4294967295) (h1 : 0 ≤ dst) (h1' : dst ≤ 4294967295) (hb : body.size ≤ 9223372036854775807) :
    ∃ (s : ByteArray) (er ck : Int), (∀ w, Calls Try.prog 15 #[.agg (pktC src dst proto ttl id dont more off body).toArray] w fun e w' => e = .returned (.tuple #[.string s, .int .i64 er]) ∧ Below w.heap.size w w') ∧
      (∀ w, Calls Try.prog 16 #[.agg (pktC src dst proto ttl id dont more off body).toArray] w fun e w' => e = .returned (.tuple #[.string s, .int .i64 er]) ∧ Below w.heap.size w w') ∧
      (∀ w, Calls Try.prog 17 #[.agg (pktC src dst proto ttl id dont more off body).toArray] w fun e w' => e = .returned (.int .i64 ck) ∧ Below w.heap.size w w') ∧
      (∀ w, Calls Try.prog 18 #[.agg (pktC src dst proto ttl id dont more off body).toArray] w fun e w' => e = .returned (.int .i64 ck) ∧ Below w.heap.size w w') := by
  by_cases hok : ipChk proto ttl id off body.size = 0
  · have hk : outB proto 255 = false ∧ outB ttl 255 = false ∧ outB id 65535 = false ∧ outB off 8191 = false ∧ body.size ≤ 1400 := by
      have h := chk_cases proto ttl id off body.size
      unfold Hid at h
      rw [hok] at h
      simpa using h
    obtain ⟨k1, k2, k3, k4, k5⟩ := hk
    have k1 := outB_false k1
    have k2 := outB_false k2
    have k3 := outB_false k3
    have k4 := outB_false k4
    exact ⟨_, 0, _, fun w => ip_Write_ok src dst proto ttl id dont more off body w h0 h0' h1 h1' k1.1 k1.2 k2.1 k2.2 k3.1 k3.2 k4.1 k4.2 k5,
      fun w => ref_IpWrite_ok src dst proto ttl id dont more off body w h0 h0' h1 h1' k1.1 k1.2 k2.1 k2.2 k3.1 k3.2 k4.1 k4.2 k5,
      fun w => ip_Check src dst proto ttl id dont more off body w hb, fun w => ref_IpCheck src dst proto ttl id dont more off body w hb⟩
  · have hne : ipChk proto ttl id off body.size = 1 ∨ ipChk proto ttl id off body.size = 2 := by
      unfold ipChk at hok ⊢
      split
      · exact .inl rfl
      · split
        · exact .inr rfl
        · rename_i a b
          rw [if_neg a, if_neg b] at hok
          exact absurd rfl hok
    exact ⟨_, _, _, fun w => ip_Write_no src dst proto ttl id dont more off body _ w hb rfl hne, fun w => ref_IpWrite_no src dst proto ttl id dont more off body _ w hb rfl hne,
      fun w => ip_Check src dst proto ttl id dont more off body w hb, fun w => ref_IpCheck src dst proto ttl id dont more off body w hb⟩

set_option maxRecDepth 100000 in
theorem walk_ipWrites (w : World) (c : Array Value) (lf : leafAll pktLeaves c.toList) :
    Calls Try.prog 3 #[.agg c] w fun e w' => e = .returned (.bool true) ∧ Below w.heap.size w w' := by
  obtain ⟨l⟩ := c
  obtain ⟨src, dst, proto, ttl, id, dont, more, off, body, rfl, ⟨h0, h0'⟩, ⟨h1, h1'⟩, _, _, _, _, hb⟩ := pkt_open lf
  clear lf
  obtain ⟨s, er, ck, c1, c2, c3, c4⟩ := ip_both src dst proto ttl id dont more off body h0 h0' h1 h1' hb
  have H1 := Lib.hid c1
  have H2 := Lib.hid c2
  have H3 := Lib.hid c3
  have H4 := Lib.hid c4
  clear c1 c2 c3 c4
  unfold pktC
  go_enter Try.func3, Try.ntmps3
  go_wp2_with fail
  have hS0 := St.start w 24 (pktC src dst proto ttl id dont more off body)
  change St _ _ _ _ _ (w.alloc (Obj.cells #[Value.int IntKind.u32 src, Value.int IntKind.u32 dst, Value.int IntKind.i64 proto, Value.int IntKind.i64 ttl, Value.int IntKind.i64 id, Value.bool dont, Value.bool more, Value.int IntKind.i64 off, Value.string body] 24)) at hS0
  generalize w.alloc (Obj.cells #[Value.int IntKind.u32 src, Value.int IntKind.u32 dst, Value.int IntKind.i64 proto, Value.int IntKind.i64 ttl, Value.int IntKind.i64 id, Value.bool dont, Value.bool more, Value.int IntKind.i64 off, Value.string body] 24) = W0 at hS0 ⊢
  generalize hBB : w.heap.size + 1 = B at hS0 ⊢
  generalize hg : w.heap.size = g at hS0 ⊢
  have HG := Lib.hid hg
  clear hg hBB
  refine (H1.out _).mono ?_
  rintro e w1 ⟨rfl, hb1⟩
  have hS1 := hS0.made hb1
  obtain ⟨k0, k1, k2, k3, k4, k5, k6, k7, k8⟩ := pkt_cells hS1.blk
  have HS1 := Lib.hid hS1
  clear hS0 hS1 hb1
  go_wp2_with fail
  refine (H2.out _).mono ?_
  rintro e w2 ⟨rfl, hb2⟩
  have hS2 := HS1.out.made hb2
  clear k0 k1 k2 k3 k4 k5 k6 k7 k8 HS1 hb2
  obtain ⟨k0, k1, k2, k3, k4, k5, k6, k7, k8⟩ := pkt_cells hS2.blk
  have q0 := Kin.cell k0
  have q1 := Kin.cell k1
  have q2 := Kin.cell k2
  have q3 := Kin.cell k3
  have q4 := Kin.cell k4
  have q5 := Kin.cell k5
  have q6 := Kin.cell k6
  have q7 := Kin.cell k7
  have q8 := Kin.cell k8
  have HS2 := Lib.hid hS2
  clear hS2
  go_wp2_with fail
  refine wp_region_kin (by kernel_rfl) (by kernel_rfl) ?_
  repeat go_big_quiet_step ((first | (go_at_call 17; exact kin_made (H3.out _)) | (go_at_call 18; exact kin_made (H4.out _))))
  refine wpQuiet_nil ?_
  intro q
  have hS3 := HS2.out.made q.below
  clear q0 q1 q2 q3 q4 q5 q6 q7 q8 k0 k1 k2 k3 k4 k5 k6 k7 k8
  generalize q.at_ = w3 at hS3 ⊢
  go_wp2
  go_ret
  exact ⟨by simp, hS3.bel.mono (by rw [HG.out]; omega)⟩
end Go.Proofs.Ytmbjinfeinhalaa
