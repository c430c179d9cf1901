/- The reference's IpWrite. -/
import Derived.Test.YtmbjinfeinhalaaIpWr
namespace Go.Proofs.Ytmbjinfeinhalaa
open Go.RowKit
set_option linter.unusedVariables false

set_option maxRecDepth 100000 in
set_option maxHeartbeats 1000000 in
theorem ref_IpWrite_ok (src dst proto ttl id : Int) (dont more : Bool) (off : Int) (body : ByteArray) (w : World) (h0 : 0 ≤ src) (h0' : src ≤ 4294967295) (h1 : 0 ≤ dst) (h1' : dst ≤ 4294967295) (h2 : 0 ≤ proto) (h2' : proto ≤ 255) (h3 : 0 ≤ ttl) (h3' : ttl ≤ 255)
    (h4 : 0 ≤ id) (h4' : id ≤ 65535) (h7 : 0 ≤ off) (h7' : off ≤ 8191) (hb : body.size ≤ 1400) :
    Calls Try.prog 16 #[.agg (pktC src dst proto ttl id dont more off body).toArray] w fun e w' => e = .returned (.tuple #[.string (bs (ipBytes src dst proto ttl id dont more off body.data.toList)), .int .i64 0]) ∧ Below w.heap.size w w' := by
  have hC : ∀ w, Calls Try.prog 18 #[.agg (pktC src dst proto ttl id dont more off body).toArray] w fun e w' => e = .returned (.int .i64 0) ∧ Below w.heap.size w w' := by
    intro w
    have := ref_IpCheck src dst proto ttl id dont more off body w (by omega)
    rw [show ipChk proto ttl id off body.size = 0 by unfold ipChk outB; simp; omega] at this
    exact this
  have HC := Lib.hid hC
  obtain ⟨o1, ho1⟩ : ∃ o1, o1 = off + (if dont = true then 16384 else 0) := ⟨_, rfl⟩
  obtain ⟨o, ho⟩ : ∃ o, o = ipOff dont more off := ⟨_, rfl⟩
  have hor1 : (dont = false → off = o1) ∧ (dont = true → off + 16384 = o1) := by
    rw [ho1]
    cases dont <;> simp
  have hor2 : (more = false → o1 = o) ∧ (more = true → o1 + 8192 = o) := by
    rw [ho, ho1]
    unfold ipOff
    cases dont <;> cases more <;> simp
  have hob1 : 0 ≤ o := by rw [ho]; unfold ipOff; split <;> split <;> omega
  have hob2 : o ≤ 65535 := by rw [ho]; unfold ipOff; split <;> split <;> omega
  have hob3 : 0 ≤ o1 := by rw [ho1]; split <;> omega
  have hob4 : o1 ≤ 65535 := by rw [ho1]; split <;> omega
  have HOR1 := Lib.hid hor1
  have HOR2 := Lib.hid hor2
  have HO := Lib.hid ho
  have c1 := fun w => ref_chr 69 w (by omega) (by omega)
  have c2 := fun w => ref_chr 0 w (by omega) (by omega)
  have c3 := fun w => ref_big 2 (20 + (body.size : Int)) w (by omega) (by omega) (by omega)
  have c4 := fun w => ref_big 2 id w (by omega) (by omega) (by omega)
  have c5 := fun w => ref_big 2 o w (by omega) (by omega) (by omega)
  have c6 := fun w => ref_chr ttl w (by omega) (by omega)
  have c7 := fun w => ref_chr proto w (by omega) (by omega)
  have c8 := fun w => ref_big 4 src w (by omega) (by omega) (by omega)
  have c9 := fun w => ref_big 4 dst w (by omega) (by omega) (by omega)
  have z1 : (bs [byt 69]).size ≤ 1 := by simp [bs_size]
  have z2 : (bs [byt 0]).size ≤ 1 := by simp [bs_size]
  have z3 : (bs (bigL (20 + (body.size : Int)) 2)).size ≤ 2 := by simp [bs_size, bigL_length]
  have z4 : (bs (bigL id 2)).size ≤ 2 := by simp [bs_size, bigL_length]
  have z5 : (bs (bigL o 2)).size ≤ 2 := by simp [bs_size, bigL_length]
  have z6 : (bs [byt ttl]).size ≤ 1 := by simp [bs_size]
  have z7 : (bs [byt proto]).size ≤ 1 := by simp [bs_size]
  have z8 : (bs (bigL src 4)).size ≤ 4 := by simp [bs_size, bigL_length]
  have z9 : (bs (bigL dst 4)).size ≤ 4 := by simp [bs_size, bigL_length]
  generalize ha1 : bs [byt 69] = a1 at c1 z1
  generalize ha2 : bs [byt 0] = a2 at c2 z2
  generalize ha3 : bs (bigL (20 + (body.size : Int)) 2) = a3 at c3 z3
  generalize ha4 : bs (bigL id 2) = a4 at c4 z4
  generalize ha5 : bs (bigL o 2) = a5 at c5 z5
  generalize ha6 : bs [byt ttl] = a6 at c6 z6
  generalize ha7 : bs [byt proto] = a7 at c7 z7
  generalize ha8 : bs (bigL src 4) = a8 at c8 z8
  generalize ha9 : bs (bigL dst 4) = a9 at c9 z9
  have H1 := Lib.hid c1
  have H2 := Lib.hid c2
  have H3 := Lib.hid c3
  have H4 := Lib.hid c4
  have H5 := Lib.hid c5
  have H6 := Lib.hid c6
  have H7 := Lib.hid c7
  have H8 := Lib.hid c8
  have H9 := Lib.hid c9
  have HA : Hid (a1 ++ a2 ++ a3 ++ a4 ++ a5 ++ a6 ++ a7 = bs (ipA (20 + body.size) id o ttl proto)) := by
    show _ = _
    rw [← ha1, ← ha2, ← ha3, ← ha4, ← ha5, ← ha6, ← ha7]
    simp [bs_append, ipA]
  have HB : Hid (a8 ++ a9 = bs (ipB src dst)) := by
    show _ = _
    rw [← ha8, ← ha9]
    simp [bs_append, ipB]
  clear hC ho hor1 hor2 ho1 c1 c2 c3 c4 c5 c6 c7 c8 c9 ha1 ha2 ha3 ha4 ha5 ha6 ha7 ha8 ha9
  unfold pktC
  go_enter Try.func16, Try.ntmps16
  go_wp2_with fail
  have hS0 := St.start w 24 (pktC src dst proto ttl id dont more off body)
  change St _ _ _ _ _ (w.alloc (Obj.cells #[Value.int IntKind.u32 src, Value.int IntKind.u32 dst, Value.int IntKind.i64 proto, Value.int IntKind.i64 ttl, Value.int IntKind.i64 id, Value.bool dont, Value.bool more, Value.int IntKind.i64 off, Value.string body] 24)) at hS0
  generalize w.alloc (Obj.cells #[Value.int IntKind.u32 src, Value.int IntKind.u32 dst, Value.int IntKind.i64 proto, Value.int IntKind.i64 ttl, Value.int IntKind.i64 id, Value.bool dont, Value.bool more, Value.int IntKind.i64 off, Value.string body] 24) = W0 at hS0 ⊢
  generalize hBB : w.heap.size + 1 = B at hS0 ⊢
  generalize hg : w.heap.size = g at hS0 ⊢
  have HG := Lib.hid hg
  clear hg hBB
  refine (HC.out _).mono ?_
  rintro e w1 ⟨rfl, hb1⟩
  have hS1 := hS0.made hb1
  obtain ⟨k0, k1, k2, k3, k4, k5, k6, k7, k8⟩ := pkt_cells hS1.blk
  have HS := Lib.hid hS1
  clear hS0 hS1 hb1
  go_upto_if 17 with fail
  go_cut [5] (fun t wx => t = .int .u64 o1 ∧ wx = w1)
  case first =>
    cases dont with
    | true =>
      go_wp2_with fail
      go_meet
      exact ⟨by have h := HOR1.out; simp at h; rw [h], rfl⟩
    | false =>
      go_wp2_with fail
      go_meet
      exact ⟨by have h := HOR1.out; simp at h; rw [h], rfl⟩
  case rest =>
  obtain ⟨rfl, rfl⟩ := hcut
  go_upto_if 21 with fail
  go_cut [5] (fun t wx => t = .int .u64 o ∧ wx = wc)
  case first =>
    cases more with
    | true =>
      go_wp2_with fail
      go_meet
      exact ⟨by have h := HOR2.out; simp at h; rw [h], rfl⟩
    | false =>
      go_wp2_with fail
      go_meet
      exact ⟨by have h := HOR2.out; simp at h; rw [h], rfl⟩
  case rest =>
  obtain ⟨rfl, rfl⟩ := hcut
  have q2 := Kin.cell k2
  have q3 := Kin.cell k3
  have q4 := Kin.cell k4
  have q8 := Kin.cell k8
  go_wp2_with fail
  refine wp_region_kin (by kernel_rfl) (by kernel_rfl) ?_
  repeat go_big_quiet_step ((first
    | (go_at_call 101; first | (with_reducible exact kin_made (H1.out _)) | (with_reducible exact kin_made (H2.out _)) | (with_reducible exact kin_made (H6.out _)) | (with_reducible exact kin_made (H7.out _)))
    | (go_at_call 102; first | (with_reducible exact kin_made (H3.out _)) | (with_reducible exact kin_made (H4.out _)) | (with_reducible exact kin_made (H5.out _)))))
  refine wpQuiet_nil ?_
  intro q
  have hS2 := HS.out.made q.below
  clear q2 q3 q4 q8 k0 k1 k2 k3 k4 k5 k6 k7 k8
  generalize q.at_ = w2 at hS2 ⊢
  obtain ⟨k0, k1, k2, k3, k4, k5, k6, k7, k8⟩ := pkt_cells hS2.blk
  have q0 := Kin.cell k0
  have q1 := Kin.cell k1
  have HS2 := Lib.hid hS2
  obtain ⟨sa, hsa⟩ : ∃ sa, a1 ++ a2 ++ a3 ++ a4 ++ a5 ++ a6 ++ a7 = sa := ⟨_, rfl⟩
  have hAA := HA.out
  rw [hsa] at hAA ⊢
  have HSA := Lib.hid hAA
  have zsa : sa.size ≤ 20 := by rw [hAA, bs_size]; simp [ipA, bigL_length]
  clear hS2 hAA hsa HA k0 k1 k2 k3 k4 k5 k6 k7 k8 HS
  go_wp2_with fail
  refine wp_region_kin (by kernel_rfl) (by kernel_rfl) ?_
  repeat go_big_quiet_step ((go_at_call 102; first | (with_reducible exact kin_made (H8.out _)) | (with_reducible exact kin_made (H9.out _))))
  refine wpQuiet_nil ?_
  intro q
  have hS3 := HS2.out.made q.below
  clear q0 q1
  generalize q.at_ = w3 at hS3 ⊢
  obtain ⟨k0, k1, k2, k3, k4, k5, k6, k7, k8⟩ := pkt_cells hS3.blk
  have q8 := Kin.cell k8
  have HS3 := Lib.hid hS3
  obtain ⟨sb, hsb⟩ : ∃ sb, a8 ++ a9 = sb := ⟨_, rfl⟩
  have hBB := HB.out
  rw [hsb] at hBB ⊢
  have HSB := Lib.hid hBB
  have zsb : sb.size ≤ 20 := by rw [hBB, bs_size]; simp [ipB, bigL_length]
  clear hS3 hBB hsb HB k0 k1 k2 k3 k4 k5 k6 k7 k8 HS2
  have c1 := fun w => ref_Sum (sa ++ sb) w (by rw [ByteArray.size_append]; omega)
  have hle := sumN_le (sa ++ sb).data.toList
  generalize hsum : sumN (sa ++ sb).data.toList = sm at c1 hle
  have c2 := fun w => ref_big 2 (65535 - (sm : Int)) w (by omega) (by omega) (by omega)
  have zz : (bs (bigL (65535 - (sm : Int)) 2)).size ≤ 2 := by simp [bs_size, bigL_length]
  generalize hbg : bs (bigL (65535 - (sm : Int)) 2) = sc at c2 zz
  have H10 := Lib.hid c1
  have H11 := Lib.hid c2
  have HSM := Lib.hid hsum
  have HBG := Lib.hid hbg
  clear c1 c2 hsum hbg
  go_wp2_with fail
  refine wp_region_kin (by kernel_rfl) (by kernel_rfl) ?_
  repeat go_big_quiet_step ((first | (go_at_call 103; exact kin_made (H10.out _)) | (go_at_call 102; exact kin_made (H11.out _))))
  refine wpQuiet_nil ?_
  intro q
  have hS4 := HS3.out.made q.below
  clear q8
  generalize q.at_ = w4 at hS4 ⊢
  go_wp2
  go_ret2
  refine ⟨?_, hS4.bel.mono (by rw [HG.out]; omega)⟩
  have e : sa ++ sc ++ sb ++ body = bs (ipBytes src dst proto ttl id dont more off body.data.toList) := by
    have hsm := HSM.out
    rw [HSA.out, HSB.out, bs_append, bs_data] at hsm
    rw [← HBG.out, HSA.out, HSB.out, ← bs_of body, bs_append, bs_append, bs_append, bs_data, ← hsm, HO.out, Lib.size_eq body]
    rfl
  rw [e]
  rfl

theorem ip_Write_no (src dst proto ttl id : Int) (dont more : Bool) (off : Int) (body : ByteArray) (er : Int) (w : World) (hb : body.size ≤ 9223372036854775807) (he : ipChk proto ttl id off body.size = er) (hne : er = 1 ∨ er = 2) :
    Calls Try.prog 15 #[.agg (pktC src dst proto ttl id dont more off body).toArray] w fun e w' => e = .returned (.tuple #[.string ⟨#[]⟩, .int .i64 er]) ∧ Below w.heap.size w w' := by
  have hC : ∀ w, Calls Try.prog 17 #[.agg (pktC src dst proto ttl id dont more off body).toArray] w fun e w' => e = .returned (.int .i64 er) ∧ Below w.heap.size w w' := by
    intro w
    have := ip_Check src dst proto ttl id dont more off body w hb
    rwa [he] at this
  have HC := Lib.hid hC
  clear hC he
  unfold pktC
  rcases hne with rfl | rfl
  all_goals
    go_enter Try.func15, Try.ntmps15
    go_wp2_with fail
    refine (HC.out _).mono ?_
    rintro e w1 ⟨rfl, hb1⟩
    have HB1 := Lib.hid hb1
    clear hb1
    go_wp2
    go_ret2
    exact ⟨rfl, (below_alloc _ (Nat.le_refl _)).trans (HB1.out.mono (by simp))⟩
theorem ref_IpWrite_no (src dst proto ttl id : Int) (dont more : Bool) (off : Int) (body : ByteArray) (er : Int) (w : World) (hb : body.size ≤ 9223372036854775807) (he : ipChk proto ttl id off body.size = er) (hne : er = 1 ∨ er = 2) :
    Calls Try.prog 16 #[.agg (pktC src dst proto ttl id dont more off body).toArray] w fun e w' => e = .returned (.tuple #[.string ⟨#[]⟩, .int .i64 er]) ∧ Below w.heap.size w w' := by
  have hC : ∀ w, Calls Try.prog 18 #[.agg (pktC src dst proto ttl id dont more off body).toArray] w fun e w' => e = .returned (.int .i64 er) ∧ Below w.heap.size w w' := by
    intro w
    have := ref_IpCheck src dst proto ttl id dont more off body w hb
    rwa [he] at this
  have HC := Lib.hid hC
  clear hC he
  unfold pktC
  rcases hne with rfl | rfl
  all_goals
    go_enter Try.func16, Try.ntmps16
    go_wp2_with fail
    refine (HC.out _).mono ?_
    rintro e w1 ⟨rfl, hb1⟩
    have HB1 := Lib.hid hb1
    clear hb1
    go_wp2
    go_ret2
    exact ⟨rfl, (below_alloc _ (Nat.le_refl _)).trans (HB1.out.mono (by simp))⟩
end Go.Proofs.Ytmbjinfeinhalaa
