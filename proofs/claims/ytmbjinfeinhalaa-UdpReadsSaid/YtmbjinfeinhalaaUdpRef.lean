/- The reference's udpBytes, UdpWrite; the writes that are refused. -/
import Derived.Test.YtmbjinfeinhalaaUdpWr
namespace Go.Proofs.Ytmbjinfeinhalaa
open Go.RowKit
set_option linter.unusedVariables false

set_option maxRecDepth 100000 in
set_option maxHeartbeats 1000000 in
theorem ref_udpBytes (fa fp ta tp : Int) (body : ByteArray) (w : World) (h0 : 0 ≤ fa) (h0' : fa ≤ 4294967295) (h1 : 0 ≤ ta) (h1' : ta ≤ 4294967295) (h2 : 0 ≤ fp) (h2' : fp ≤ 65535) (h3 : 0 ≤ tp) (h3' : tp ≤ 65535) (hb : body.size ≤ 65535) :
    Calls Try.prog 107 #[.agg (gramC fa fp ta tp body).toArray] w fun e w' => e = .returned (.string (bs (udpL fa fp ta tp body.data.toList))) ∧ Below w.heap.size w w' := by
  obtain ⟨n, hn⟩ : ∃ n, n = body.data.toList.length := ⟨_, rfl⟩
  have hsz := Lib.size_eq body
  have c1 := fun w => ref_big 2 fp w (by omega) (by omega) (by omega)
  have c2 := fun w => ref_big 2 tp w (by omega) (by omega) (by omega)
  have c3 := fun w => ref_big 2 (8 + (body.size : Int)) w (by omega) (by omega) (by omega)
  have c4 := fun w => ref_Pseudo fa ta 17 (8 + (body.size : Int)) w h0 h0' h1 h1' (by omega) (by omega) (by omega) (by omega)
  have c5 := fun w => ref_chr 0 w (by omega) (by omega)
  have z1 : (bs (bigL fp 2)).size ≤ 2 := by simp [bs_size, bigL_length]
  have z2 : (bs (bigL tp 2)).size ≤ 2 := by simp [bs_size, bigL_length]
  have z3 : (bs (bigL (8 + (body.size : Int)) 2)).size ≤ 2 := by simp [bs_size, bigL_length]
  have z4 : (bs (psL fa ta 17 (8 + (body.size : Int)))).size ≤ 12 := by rw [bs_size, psL_length]; omega
  have z5 : (bs [byt 0]).size ≤ 1 := by simp [bs_size]
  generalize ha1 : bs (bigL fp 2) = a1 at c1 z1
  generalize ha2 : bs (bigL tp 2) = a2 at c2 z2
  generalize ha3 : bs (bigL (8 + (body.size : Int)) 2) = a3 at c3 z3
  generalize ha4 : bs (psL fa ta 17 (8 + (body.size : Int))) = a4 at c4 z4
  generalize ha5 : bs [byt 0] = a5 at c5 z5
  have hA : a1 ++ a2 ++ a3 = bs (udpA fp tp n) := by
    rw [← ha1, ← ha2, ← ha3, hn, hsz]
    simp [bs_append, udpA]
  obtain ⟨sa, hsa⟩ : ∃ sa, a1 ++ a2 ++ a3 = sa := ⟨_, rfl⟩
  have zsa : sa.size ≤ 6 := by rw [← hsa, ByteArray.size_append, ByteArray.size_append]; omega
  have hall : (a4 ++ sa ++ a5 ++ a5 ++ body).data.toList = psL fa ta 17 (udpA fp tp n ++ [0, 0] ++ body.data.toList).length ++ (udpA fp tp n ++ [0, 0] ++ body.data.toList) := by
    rw [← hsa, hA, ← ha4, ← ha5]
    have e : ((udpA fp tp n ++ [0, 0] ++ body.data.toList).length : Int) = 8 + (body.size : Int) := by simp [udpA_length]; omega
    rw [e]
    simp [ByteArray.data_append, bs_data]
    decide
  have c6 := fun w => ref_Sum (a4 ++ sa ++ a5 ++ a5 ++ body) w (by simp only [ByteArray.size_append]; omega)
  rw [hall] at c6
  have hud : udpN fa ta (udpA fp tp n ++ [0, 0] ++ body.data.toList) = (if sumN (psL fa ta 17 (udpA fp tp n ++ [0, 0] ++ body.data.toList).length ++ (udpA fp tp n ++ [0, 0] ++ body.data.toList)) = 65535 then 65535 else 65535 - (sumN (psL fa ta 17 (udpA fp tp n ++ [0, 0] ++ body.data.toList).length ++ (udpA fp tp n ++ [0, 0] ++ body.data.toList)) : Int)) := rfl
  have hle := sumN_le (psL fa ta 17 (udpA fp tp n ++ [0, 0] ++ body.data.toList).length ++ (udpA fp tp n ++ [0, 0] ++ body.data.toList))
  generalize sumN (psL fa ta 17 (udpA fp tp n ++ [0, 0] ++ body.data.toList).length ++ (udpA fp tp n ++ [0, 0] ++ body.data.toList)) = sm at c6 hud hle
  obtain ⟨ck, hck⟩ : ∃ ck, ck = udpN fa ta (udpA fp tp n ++ [0, 0] ++ body.data.toList) := ⟨_, rfl⟩
  have hck1 : 0 ≤ ck := by rw [hck]; exact (udpN_bd _ _ _).1
  have hck2 : ck ≤ 65535 := by rw [hck]; exact (udpN_bd _ _ _).2
  rw [← hck] at hud
  have c7 := fun w => ref_big 2 ck w (by omega) (by omega) (by omega)
  have z7 : (bs (bigL ck 2)).size ≤ 2 := by simp [bs_size, bigL_length]
  generalize ha7 : bs (bigL ck 2) = a7 at c7 z7
  have hfin : sa ++ a7 ++ body = bs (udpL fa fp ta tp body.data.toList) := by
    rw [← hsa, hA, ← ha7, ← bs_of body, bs_append, bs_append, bs_data, hck, hn]
    rfl
  have HF := Lib.hid hfin
  have HSA := Lib.hid hsa
  have HUD := Lib.hid hud
  have H1 := Lib.hid c1
  have H2 := Lib.hid c2
  have H3 := Lib.hid c3
  have H4 := Lib.hid c4
  have H5 := Lib.hid c5
  have H6 := Lib.hid c6
  have H7 := Lib.hid c7
  clear hn hsz ha1 ha2 ha3 ha4 ha5 ha7 hA hsa hall hud hck hfin c1 c2 c3 c4 c5 c6 c7
  unfold gramC
  go_enter Try.func107, Try.ntmps107
  go_wp2_with fail
  have hS0 := St.start w 33 (gramC fa fp ta tp body)
  change St _ _ _ _ _ (w.alloc (Obj.cells #[Value.int IntKind.u32 fa, Value.int IntKind.i64 fp, Value.int IntKind.u32 ta, Value.int IntKind.i64 tp, Value.string body] 33)) at hS0
  generalize w.alloc (Obj.cells #[Value.int IntKind.u32 fa, Value.int IntKind.i64 fp, Value.int IntKind.u32 ta, Value.int IntKind.i64 tp, Value.string body] 33) = W0 at hS0 ⊢
  generalize hBB : w.heap.size + 1 = B at hS0 ⊢
  generalize hg : w.heap.size = g at hS0 ⊢
  have HG := Lib.hid hg
  clear hg hBB
  obtain ⟨k0, k1, k2, k3, k4⟩ := gram_cells hS0.blk
  have q0 := Kin.cell k0
  have q1 := Kin.cell k1
  have q2 := Kin.cell k2
  have q3 := Kin.cell k3
  have q4 := Kin.cell k4
  have HS0 := Lib.hid hS0
  clear hS0
  refine wp_region_kin (by kernel_rfl) (by kernel_rfl) ?_
  repeat go_big_quiet_step ((go_at_call 102; first | (with_reducible exact kin_made (H1.out _)) | (with_reducible exact kin_made (H2.out _)) | (with_reducible exact kin_made (H3.out _))))
  refine wpQuiet_nil ?_
  intro q
  have hS1 := HS0.out.made q.below
  clear k0 k1 k2 k3 k4 q0 q1 q2 q3 q4
  generalize q.at_ = w1 at hS1 ⊢
  rw [HSA.out]
  obtain ⟨k0, k1, k2, k3, k4⟩ := gram_cells hS1.blk
  have q0 := Kin.cell k0
  have q1 := Kin.cell k1
  have q2 := Kin.cell k2
  have q3 := Kin.cell k3
  have q4 := Kin.cell k4
  have HS1 := Lib.hid hS1
  clear hS1 HS0
  go_wp2_with fail
  refine wp_region_kin (by kernel_rfl) (by kernel_rfl) ?_
  repeat go_big_quiet_step ((first
    | (go_at_call 75; exact kin_made (H4.out _))
    | (go_at_call 101; exact kin_made (H5.out _))
    | (go_at_call 103; exact kin_made (H6.out _))))
  refine wpQuiet_nil ?_
  intro q
  have hS2 := HS1.out.made q.below
  clear k0 k1 k2 k3 k4 q0 q1 q2 q3 q4
  generalize q.at_ = w2 at hS2 ⊢
  obtain ⟨k0, k1, k2, k3, k4⟩ := gram_cells hS2.blk
  have HS2 := Lib.hid hS2
  clear hS2 HS1
  go_upto_if 46 with fail
  go_cut [4] (fun t wx => t = .int .u16 ck ∧ wx = w2)
  case first =>
    by_cases hk : sm = 65535
    · have hq : (65535 - (sm : Int) == 0) = true := by rw [beq_iff_eq]; omega
      have h := HUD.out
      rw [if_pos hk] at h
      have HH := Lib.hid h
      clear hk h
      go_wp2_with fail
      go_meet
      exact ⟨by rw [HH.out], rfl⟩
    · have hq : (65535 - (sm : Int) == 0) = false := by rw [beq_eq_false_iff_ne]; omega
      have h := HUD.out
      rw [if_neg hk] at h
      have HH := Lib.hid h
      clear hk h
      go_wp2_with fail
      go_meet
      exact ⟨by rw [HH.out], rfl⟩
  case rest =>
  obtain ⟨rfl, rfl⟩ := hcut
  have q4 := Kin.cell k4
  go_wp2_with fail
  refine wp_region_kin (by kernel_rfl) (by kernel_rfl) ?_
  repeat go_big_quiet_step ((go_at_call 102; exact kin_made (H7.out _)))
  refine wpQuiet_nil ?_
  intro q
  have hS3 := HS2.out.made q.below
  clear q4 k0 k1 k2 k3 k4
  generalize q.at_ = w3 at hS3 ⊢
  go_wp2
  go_ret
  exact ⟨ret_str HF.out, hS3.bel.mono (by rw [HG.out]; omega)⟩

theorem ref_UdpWrite_ok (fa fp ta tp : Int) (body : ByteArray) (w : World) (h0 : 0 ≤ fa) (h0' : fa ≤ 4294967295) (h1 : 0 ≤ ta) (h1' : ta ≤ 4294967295) (h2 : 1 ≤ fp) (h2' : fp ≤ 65535) (h3 : 1 ≤ tp) (h3' : tp ≤ 65535) (hb : body.size ≤ 1000) :
    Calls Try.prog 20 #[.agg (gramC fa fp ta tp body).toArray] w fun e w' => e = .returned (.tuple #[.string (bs (udpL fa fp ta tp body.data.toList)), .int .i64 0]) ∧ Below w.heap.size w w' := by
  have hC : ∀ w, Calls Try.prog 22 #[.agg (gramC fa fp ta tp body).toArray] w fun e w' => e = .returned (.int .i64 0) ∧ Below w.heap.size w w' := by
    intro w
    have := ref_UdpCheck fa fp ta tp body w (by omega)
    rw [show udpChk fp tp body.size = 0 by unfold udpChk portB; simp; omega] at this
    exact this
  have HC := Lib.hid hC
  have HU := Lib.hid (fun w => ref_udpBytes fa fp ta tp body w h0 h0' h1 h1' (by omega) h2' (by omega) h3' (by omega))
  clear hC
  generalize bs (udpL fa fp ta tp body.data.toList) = r at HU ⊢
  unfold gramC
  go_enter Try.func20, Try.ntmps20
  go_wp2_with fail
  have hS0 := St.start w 33 (gramC fa fp ta tp body)
  change St _ _ _ _ _ (w.alloc (Obj.cells #[Value.int IntKind.u32 fa, Value.int IntKind.i64 fp, Value.int IntKind.u32 ta, Value.int IntKind.i64 tp, Value.string body] 33)) at hS0
  generalize w.alloc (Obj.cells #[Value.int IntKind.u32 fa, Value.int IntKind.i64 fp, Value.int IntKind.u32 ta, Value.int IntKind.i64 tp, Value.string body] 33) = W0 at hS0 ⊢
  generalize hBB : w.heap.size + 1 = B at hS0 ⊢
  generalize hg : w.heap.size = g at hS0 ⊢
  have HG := Lib.hid hg
  clear hg hBB
  refine (HC.out _).mono ?_
  rintro e w1 ⟨rfl, hb1⟩
  have hS1 := hS0.made hb1
  obtain ⟨k0, k1, k2, k3, k4⟩ := gram_cells hS1.blk
  have HS1 := Lib.hid hS1
  clear hS0 hS1 hb1
  go_wp2_with fail
  refine (HU.out _).mono ?_
  rintro e w2 ⟨rfl, hb2⟩
  have hS2 := HS1.out.made hb2
  have HS2 := Lib.hid hS2
  clear hS2 hb2 HS1 k0 k1 k2 k3 k4
  go_wp2_with fail
  go_ret2
  exact ⟨rfl, HS2.out.bel.mono (by rw [HG.out]; omega)⟩

theorem udp_Write_no (fa fp ta tp : Int) (body : ByteArray) (er : Int) (w : World) (hb : body.size ≤ 9223372036854775807) (he : udpChk fp tp body.size = er) (hne : er = 1 ∨ er = 2) :
    Calls Try.prog 19 #[.agg (gramC fa fp ta tp body).toArray] w fun e w' => e = .returned (.tuple #[.string ⟨#[]⟩, .int .i64 er]) ∧ Below w.heap.size w w' := by
  have hC : ∀ w, Calls Try.prog 21 #[.agg (gramC fa fp ta tp body).toArray] w fun e w' => e = .returned (.int .i64 er) ∧ Below w.heap.size w w' := by
    intro w
    have := udp_Check fa fp ta tp body w hb
    rwa [he] at this
  have HC := Lib.hid hC
  clear hC he
  unfold gramC
  rcases hne with rfl | rfl
  all_goals
    go_enter Try.func19, Try.ntmps19
    go_wp2_with fail
    refine (HC.out _).mono ?_
    rintro e w1 ⟨rfl, hb1⟩
    have HB1 := Lib.hid hb1
    clear hb1
    go_wp2
    go_ret2
    exact ⟨rfl, (below_alloc _ (Nat.le_refl _)).trans (HB1.out.mono (by simp))⟩
theorem ref_UdpWrite_no (fa fp ta tp : Int) (body : ByteArray) (er : Int) (w : World) (hb : body.size ≤ 9223372036854775807) (he : udpChk fp tp body.size = er) (hne : er = 1 ∨ er = 2) :
    Calls Try.prog 20 #[.agg (gramC fa fp ta tp body).toArray] w fun e w' => e = .returned (.tuple #[.string ⟨#[]⟩, .int .i64 er]) ∧ Below w.heap.size w w' := by
  have hC : ∀ w, Calls Try.prog 22 #[.agg (gramC fa fp ta tp body).toArray] w fun e w' => e = .returned (.int .i64 er) ∧ Below w.heap.size w w' := by
    intro w
    have := ref_UdpCheck fa fp ta tp body w hb
    rwa [he] at this
  have HC := Lib.hid hC
  clear hC he
  unfold gramC
  rcases hne with rfl | rfl
  all_goals
    go_enter Try.func20, Try.ntmps20
    go_wp2_with fail
    refine (HC.out _).mono ?_
    rintro e w1 ⟨rfl, hb1⟩
    have HB1 := Lib.hid hb1
    clear hb1
    go_wp2
    go_ret2
    exact ⟨rfl, (below_alloc _ (Nat.le_refl _)).trans (HB1.out.mono (by simp))⟩
end Go.Proofs.Ytmbjinfeinhalaa
