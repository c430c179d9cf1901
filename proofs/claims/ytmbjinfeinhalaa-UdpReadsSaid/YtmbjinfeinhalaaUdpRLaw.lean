/- The law UdpReads: its walk. -/
import Derived.Test.YtmbjinfeinhalaaUdpRdRef
import Derived.Test.YtmbjinfeinhalaaLawLift
namespace Go.Proofs.Ytmbjinfeinhalaa
open Go.RowKit
set_option linter.unusedVariables false

set_option maxRecDepth 100000 in
theorem udp_Read_short (src dst : Int) (s : ByteArray) (w : World) (h8 : s.size < 8) :
    Calls Try.prog 40 #[.int .u32 src, .int .u32 dst, .string s] w fun e w' => e = .returned (.tuple #[.agg zeroGram.toArray, .int .i64 3]) ∧ Below w.heap.size w w' := by
  go_enter Try.func40, Try.ntmps40
  go_wp2
  exact bodyPost_ret (v := .tuple #[.agg zeroGram.toArray, .int .i64 3]) (by simp [results, Try.results40, go_sem, zeroGram, gramC]) rfl ⟨rfl, by go_grown⟩
set_option maxRecDepth 100000 in
theorem ref_UdpRead_short (src dst : Int) (s : ByteArray) (w : World) (h8 : s.size < 8) :
    Calls Try.prog 41 #[.int .u32 src, .int .u32 dst, .string s] w fun e w' => e = .returned (.tuple #[.agg zeroGram.toArray, .int .i64 3]) ∧ Below w.heap.size w w' := by
  go_enter Try.func41, Try.ntmps41
  go_wp2
  exact bodyPost_ret (v := .tuple #[.agg zeroGram.toArray, .int .i64 3]) (by simp [results, Try.results41, go_sem, zeroGram, gramC]) rfl ⟨rfl, by go_grown⟩

theorem udpRead_both (src dst : Int) (s : ByteArray) (h0 : 0 ≤ src) (h0' : src ≤ 4294967295) (h1 : 0 ≤ dst) (h1' : dst ≤ 4294967295) (hs : s.size ≤ 140737488351232) :
    ∃ (fa fp ta tp er : Int) (body : ByteArray), (∀ w, Calls Try.prog 40 #[.int .u32 src, .int .u32 dst, .string s] w fun e w' => e = .returned (.tuple #[.agg (gramC fa fp ta tp body).toArray, .int .i64 er]) ∧ Below w.heap.size w w') ∧
      (∀ w, Calls Try.prog 41 #[.int .u32 src, .int .u32 dst, .string s] w fun e w' => e = .returned (.tuple #[.agg (gramC fa fp ta tp body).toArray, .int .i64 er]) ∧ Below w.heap.size w w') := by
  by_cases h8 : s.size < 8
  · exact ⟨0, 0, 0, 0, 3, ⟨#[]⟩, fun w => udp_Read_short src dst s w h8, fun w => ref_UdpRead_short src dst s w h8⟩
  have c1 := fun w => udp_Read_any src dst s w h0 h0' h1 h1' hs (by omega) _ rfl
  have c2 := fun w => ref_UdpRead_any src dst s w h0 h0' h1 h1' hs (by omega) _ rfl
  by_cases he : udpErr src dst s.data.toList = 0
  · rw [he] at c1 c2
    simp only [if_true] at c1 c2
    exact ⟨_, _, _, _, _, _, c1, c2⟩
  · simp only [he, if_false] at c1 c2
    exact ⟨0, 0, 0, 0, _, ⟨#[]⟩, c1, c2⟩

set_option maxRecDepth 100000 in
theorem walk_udpReads (w : World) (src dst : Int) (s : ByteArray) (h0 : 0 ≤ src) (h0' : src ≤ 4294967295) (h1 : 0 ≤ dst) (h1' : dst ≤ 4294967295) (hs : s.size ≤ 140737488351232) :
    Calls Try.prog 7 #[.int .u32 src, .int .u32 dst, .string s] w fun e w' => e = .returned (.bool true) ∧ Below w.heap.size w w' := by
  obtain ⟨fa, fp, ta, tp, er, body, c1, c2⟩ := udpRead_both src dst s h0 h0' h1 h1' hs
  have H1 := Lib.hid c1
  have H2 := Lib.hid c2
  clear c1 c2
  unfold gramC at *
  go_enter Try.func7, Try.ntmps7
  go_wp2_with fail
  refine (H1.out _).mono ?_
  rintro e w1 ⟨rfl, hb1⟩
  have HO1 := Lib.hid hb1
  clear hb1
  go_wp2_with fail
  have hS := St.start w1 33 (gramC fa fp ta tp body)
  change St _ _ _ _ _ (w1.alloc (Obj.cells #[Value.int IntKind.u32 fa, Value.int IntKind.i64 fp, Value.int IntKind.u32 ta, Value.int IntKind.i64 tp, Value.string body] 33)) at hS
  refine (H2.out _).mono ?_
  rintro e w2 ⟨rfl, hb2⟩
  have hS2 := hS.made hb2
  obtain ⟨k0, k1, k2, k3, k4⟩ := gram_cells hS2.blk
  have hsz := hS2.size
  have HS2 := Lib.hid hS2
  clear hS hS2 hb2
  go_wp2
  go_ret
  exact ⟨by simp, (HO1.out.trans (HS2.out.bel.mono HO1.out.size)).trans (below_alloc _ (Nat.le_trans HO1.out.size (Nat.le_of_lt hsz)))⟩
end Go.Proofs.Ytmbjinfeinhalaa
