/- Package udp: Write; the reference's. -/
import Derived.Test.YtmbjinfeinhalaaUdpChk
namespace Go.Proofs.Ytmbjinfeinhalaa
open Go.RowKit
set_option linter.unusedVariables false

/-- The check sum of a datagram's bytes. -/
def udpN (src dst : Int) (s : List UInt8) : Int := if sumN (psL src dst 17 s.length ++ s) = 65535 then 65535 else 65535 - sumN (psL src dst 17 s.length ++ s)
theorem udpN_bd (src dst : Int) (s : List UInt8) : 0 ≤ udpN src dst s ∧ udpN src dst s ≤ 65535 := by
  have := sumN_le (psL src dst 17 s.length ++ s)
  unfold udpN
  split <;> omega
def udpA (fp tp : Int) (n : Nat) : List UInt8 := bigL fp 2 ++ bigL tp 2 ++ bigL (8 + n) 2
theorem udpA_length (fp tp : Int) (n : Nat) : (udpA fp tp n).length = 6 := by simp [udpA, bigL_length]
/-- The bytes of a datagram. -/
def udpL (fa fp ta tp : Int) (body : List UInt8) : List UInt8 :=
  udpA fp tp body.length ++ bigL (udpN fa ta (udpA fp tp body.length ++ [0, 0] ++ body)) 2 ++ body
theorem gram_cells {g : Nat} {fa fp ta tp : Int} {body : ByteArray} {w : World} {t : TypeId} (h : Blk w g t (gramC fa fp ta tp body)) :
    w.cell? ⟨g, 0, none⟩ = some (.int .u32 fa) ∧ w.cell? ⟨g, 1, none⟩ = some (.int .i64 fp) ∧ w.cell? ⟨g, 2, none⟩ = some (.int .u32 ta) ∧ w.cell? ⟨g, 3, none⟩ = some (.int .i64 tp) ∧ w.cell? ⟨g, 4, none⟩ = some (.string body) :=
  ⟨h.at_ rfl, h.at_ rfl, h.at_ rfl, h.at_ rfl, h.at_ rfl⟩

theorem udp_check (src dst : Int) (s : ByteArray) (w : World) (h0 : 0 ≤ src) (h0' : src ≤ 4294967295) (h1 : 0 ≤ dst) (h1' : dst ≤ 4294967295) (hs : s.size ≤ 140737488351232) :
    Calls Try.prog 106 #[.int .u32 src, .int .u32 dst, .string s] w fun e w' => e = .returned (.int .u16 (udpN src dst s.data.toList)) ∧ Below w.heap.size w w' := by
  have hP := fun w => ip_Pseudo src dst 17 (s.size : Int) w h0 h0' h1 h1'
  have hz : (bs (psL src dst 17 (s.size : Int))).size ≤ 12 := by rw [bs_size, psL_length]; omega
  have hS := fun w => sum_Check (bs (psL src dst 17 (s.size : Int)) ++ s) w (by rw [ByteArray.size_append]; omega)
  have hsd : (bs (psL src dst 17 (s.size : Int)) ++ s).data.toList = psL src dst 17 s.data.toList.length ++ s.data.toList := by
    rw [ByteArray.data_append, Array.toList_append, bs_data, ← Lib.size_eq]
  have hle := sumN_le (psL src dst 17 s.data.toList.length ++ s.data.toList)
  rw [hsd] at hS
  unfold udpN
  generalize sumN (psL src dst 17 s.data.toList.length ++ s.data.toList) = sm at hS hle ⊢
  generalize bs (psL src dst 17 (s.size : Int)) = ps at hP hz hS
  have HP := Lib.hid hP
  have HS := Lib.hid hS
  clear hP hS hsd
  by_cases hk : sm = 65535
  · have hq : (65535 - (sm : Int) == 0) = true := by rw [beq_iff_eq]; omega
    rw [if_pos hk]
    clear hk
    go_enter Try.func106, Try.ntmps106
    go_wp2_with fail
    refine (HP.out _).mono ?_
    rintro e w1 ⟨rfl, hb1⟩
    have HB1 := Lib.hid hb1
    clear hb1
    go_wp2_with fail
    refine (HS.out _).mono ?_
    rintro e w2 ⟨rfl, n2, rfl⟩
    go_wp2_with fail
    go_ret
    exact ⟨rfl, below_drewN HB1.out _⟩
  · have hq : (65535 - (sm : Int) == 0) = false := by rw [beq_eq_false_iff_ne]; omega
    rw [if_neg hk]
    clear hk
    go_enter Try.func106, Try.ntmps106
    go_wp2_with fail
    refine (HP.out _).mono ?_
    rintro e w1 ⟨rfl, hb1⟩
    have HB1 := Lib.hid hb1
    clear hb1
    go_wp2_with fail
    refine (HS.out _).mono ?_
    rintro e w2 ⟨rfl, n2, rfl⟩
    go_wp2_with fail
    go_ret
    exact ⟨rfl, below_drewN HB1.out _⟩

set_option maxRecDepth 100000 in
set_option maxHeartbeats 1000000 in
theorem udp_Write_ok (fa fp ta tp : Int) (body : ByteArray) (w : World) (h0 : 0 ≤ fa) (h0' : fa ≤ 4294967295) (h1 : 0 ≤ ta) (h1' : ta ≤ 4294967295) (h2 : 1 ≤ fp) (h2' : fp ≤ 65535) (h3 : 1 ≤ tp) (h3' : tp ≤ 65535) (hb : body.size ≤ 1000) :
    Calls Try.prog 19 #[.agg (gramC fa fp ta tp body).toArray] w fun e w' => e = .returned (.tuple #[.string (bs (udpL fa fp ta tp body.data.toList)), .int .i64 0]) ∧ Below w.heap.size w w' := by
  have hC : ∀ w, Calls Try.prog 21 #[.agg (gramC fa fp ta tp body).toArray] w fun e w' => e = .returned (.int .i64 0) ∧ Below w.heap.size w w' := by
    intro w
    have := udp_Check fa fp ta tp body w (by omega)
    rw [show udpChk fp tp body.size = 0 by unfold udpChk portB; simp; omega] at this
    exact this
  have HC := Lib.hid hC
  clear hC
  unfold gramC
  go_enter Try.func19, Try.ntmps19
  go_wp2_with fail
  have hS0 := St.start w 33 (gramC fa fp ta tp body)
  change St _ _ _ _ _ (w.alloc (Obj.cells #[Value.int IntKind.u32 fa, Value.int IntKind.i64 fp, Value.int IntKind.u32 ta, Value.int IntKind.i64 tp, Value.string body] 33)) at hS0
  generalize w.alloc (Obj.cells #[Value.int IntKind.u32 fa, Value.int IntKind.i64 fp, Value.int IntKind.u32 ta, Value.int IntKind.i64 tp, Value.string body] 33) = W0 at hS0 ⊢
  generalize hBB : w.heap.size + 1 = B at hS0 ⊢
  generalize hg : w.heap.size = g at hS0 ⊢
  have HG := Lib.hid hg
  clear hg hBB
  refine (HC.out _).mono ?_
  rintro e w1 ⟨rfl, hb1⟩
  have hS1 := hS0.made hb1
  obtain ⟨k0, k1, k2, k3, k4⟩ := gram_cells hS1.blk
  have hgs := hS1.size
  have hK : Blk (w1.alloc (Obj.cells #[Value.int IntKind.i64 fp, Value.int IntKind.i64 tp, Value.int IntKind.i64 (8 + (body.size : Int)), Value.int IntKind.i64 0] 3)) w1.heap.size 3 [Value.int IntKind.i64 fp, Value.int IntKind.i64 tp, Value.int IntKind.i64 (8 + (body.size : Int)), Value.int IntKind.i64 0] := Blk.new w1 _ _
  have hS2 := (hS1.alloc (Obj.cells #[Value.int IntKind.i64 fp, Value.int IntKind.i64 tp, Value.int IntKind.i64 (8 + (body.size : Int)), Value.int IntKind.i64 0] 3)).raise (B' := w1.heap.size + 1) (by have := hS1.le; omega) (by simp)
  have HS := Lib.hid hS2
  have HK := Lib.hid hK
  clear hS0 hS1 hS2 hb1 hK
  go_wp2_with fail
  refine wp_loop_rounds 5 ?_
  rw [rounds_succ]
  go_wp2_with fail
  refine (wire_Append16 (w1.heap.size + 1) _ [] _ _ HS.out.le (Row.nil _ _) (by simp) (by omega) (by omega)).mono ?_
  rintro e w2 ⟨v2, rfl, hv2, hb2⟩
  have hS2 := HS.out.go hb2
  have hK2 := HK.out.below hb2 (Nat.lt_succ_self _)
  generalize hgi : w1.heap.size = gi at hv2 hS2 hK2 hb2 ⊢
  clear HS HK hgi hb2 k0 k1 k2 k3 k4 hgs
  have c0 := hK2.at_ (i := 0) (v := .int .i64 fp) rfl
  have c1 := hK2.at_ (i := 1) (v := .int .i64 tp) rfl
  have c2 := hK2.at_ (i := 2) (v := .int .i64 (8 + (body.size : Int))) rfl
  have c3 := hK2.at_ (i := 3) (v := .int .i64 0) rfl
  have HS2 := Lib.hid hS2
  have HK2 := Lib.hid hK2
  have HR2 := Lib.hid hv2
  clear hS2 hK2 hv2
  go_wp2_with fail
  rw [rounds_succ]
  go_wp2_with fail
  refine (wire_Append16 (gi + 1) v2 _ _ _ HS2.out.le HR2.out (by simp [bigL_length]) (by omega) (by omega)).mono ?_
  rintro e w3 ⟨v3, rfl, hv3, hb3⟩
  have hS3 := HS2.out.go hb3
  have hK3 := HK2.out.below hb3 (Nat.lt_succ_self _)
  clear HS2 HK2 HR2 hb3 c0 c1 c2 c3
  have c0 := hK3.at_ (i := 0) (v := .int .i64 fp) rfl
  have c1 := hK3.at_ (i := 1) (v := .int .i64 tp) rfl
  have c2 := hK3.at_ (i := 2) (v := .int .i64 (8 + (body.size : Int))) rfl
  have c3 := hK3.at_ (i := 3) (v := .int .i64 0) rfl
  have HS3 := Lib.hid hS3
  have HK3 := Lib.hid hK3
  have HR3 := Lib.hid hv3
  clear hS3 hK3 hv3
  go_wp2_with fail
  rw [rounds_succ]
  go_wp2_with fail
  refine (wire_Append16 (gi + 1) v3 _ _ _ HS3.out.le HR3.out (by simp [bigL_length]) (by omega) (by omega)).mono ?_
  rintro e w4 ⟨v4, rfl, hv4, hb4⟩
  have hS4 := HS3.out.go hb4
  have hK4 := HK3.out.below hb4 (Nat.lt_succ_self _)
  clear HS3 HK3 HR3 hb4 c0 c1 c2 c3
  have c0 := hK4.at_ (i := 0) (v := .int .i64 fp) rfl
  have c1 := hK4.at_ (i := 1) (v := .int .i64 tp) rfl
  have c2 := hK4.at_ (i := 2) (v := .int .i64 (8 + (body.size : Int))) rfl
  have c3 := hK4.at_ (i := 3) (v := .int .i64 0) rfl
  have HS4 := Lib.hid hS4
  have HK4 := Lib.hid hK4
  have HR4 := Lib.hid hv4
  clear hS4 hK4 hv4
  go_wp2_with fail
  rw [rounds_succ]
  go_wp2_with fail
  refine (wire_Append16 (gi + 1) v4 _ _ _ HS4.out.le HR4.out (by simp [bigL_length]) (by omega) (by omega)).mono ?_
  rintro e w5 ⟨v5, rfl, hv5, hb5⟩
  have hS5 := HS4.out.go hb5
  have hK5 := HK4.out.below hb5 (Nat.lt_succ_self _)
  clear HS4 HK4 HR4 hb5 c0 c1 c2 c3
  have c0 := hK5.at_ (i := 0) (v := .int .i64 fp) rfl
  have c1 := hK5.at_ (i := 1) (v := .int .i64 tp) rfl
  have c2 := hK5.at_ (i := 2) (v := .int .i64 (8 + (body.size : Int))) rfl
  have c3 := hK5.at_ (i := 3) (v := .int .i64 0) rfl
  have HS5 := Lib.hid hS5
  have HK5 := Lib.hid hK5
  have HR5 := Lib.hid hv5
  clear hS5 hK5 hv5
  clear c0 c1 c2 c3 HK5
  obtain ⟨k0, k1, k2, k3, k4⟩ := gram_cells HS5.out.blk
  go_wp2_with fail
  rw [rounds_succ]
  go_wp2_with (at_builtin; refine wpList_app8_str rfl (.tmp 34) (.tmp 36) rfl (gi + 1) v5 _ body rfl HR5.out rfl (by simp [bigL_length]; omega) HS5.out.le ?_)
  intro v6 w6 hv6 hb6
  have hS6 := HS5.out.go hb6
  obtain ⟨n, hn⟩ : ∃ n, n = body.data.toList.length := ⟨_, rfl⟩
  have hsz := Lib.size_eq body
  have hv6 : Row w6 (gi + 1) v6 (udpA fp tp n ++ [0, 0] ++ body.data.toList) := by
    have e : bigL 0 2 = [0, 0] := rfl
    have e2 : (8 + (body.size : Int)) = 8 + (n : Int) := by omega
    rw [e, e2] at hv6
    simpa [udpA] using hv6
  obtain ⟨L, hL⟩ : ∃ L, L = udpA fp tp n ++ [0, 0] ++ body.data.toList := ⟨_, rfl⟩
  rw [← hL] at hv6
  have hLl : L.length = 8 + body.size := by rw [hL]; simp [udpA_length]; omega
  obtain ⟨g6, cap6, cs6, hvv, hBg, hK6, hc1, hc2, hcl, hct⟩ := hv6.blk (by omega)
  rw [hLl] at hvv hc1 hct
  clear k0 k1 k2 k3 k4 HR5 HS5 hb6 hv6
  obtain ⟨k0, k1, k2, k3, k4⟩ := gram_cells hS6.blk
  have q0 := Kin.cell k0
  have q1 := Kin.cell k1
  have q2 := Kin.cell k2
  have q3 := Kin.cell k3
  have q4 := Kin.cell k4
  have HS6 := Lib.hid hS6
  have HK6 := Lib.hid hK6
  have HCT := Lib.hid hct
  have HCL := Lib.hid hcl
  have HL := Lib.hid hL
  have HLl := Lib.hid hLl
  have HN := Lib.hid hn
  have HSZ := Lib.hid hsz
  clear hS6 hK6 hct hcl hL hLl hn hsz
  subst hvv
  unfold maxLen at hc2
  have hcv : ∀ q : Kin w6, Sem.run Try.prog (convert 123 9 (.slice (some ⟨g6, 0, none⟩) (8 + body.size) cap6)) q.at_ = .ok (.string (bs L)) q.at_ := by
    intro q
    refine conv_row _ _ _ _ _ (fun j u hu => ?_) HLl.out.symm
    rw [(HK6.out.below q.below HK6.out.lt).cell j]
    rw [← HCT.out, List.getElem?_take] at hu
    split at hu
    · exact hu
    · cases hu
  have hsl : ∀ q : Kin w6, (Instr.slice 123 (.slice (some ⟨g6, 0, none⟩) (8 + body.size) cap6) (some (.int .i64 6)) none none).run Try.prog q.at_ = .ok (.slice (some ⟨g6, 6, none⟩) (8 + body.size - 6) (cap6 - 6)) q.at_ := fun q => by
    have := run_from8 g6 0 (8 + body.size) cap6 6 (by omega) (by omega) q.at_
    simpa using this
  have hbd := udpN_bd fa ta L
  have hsum := fun w => udp_check fa ta (bs L) w h0 h0' h1 h1' (by rw [bs_size, HLl.out]; omega)
  rw [bs_data] at hsum
  obtain ⟨ck, hck⟩ : ∃ ck, ck = udpN fa ta L := ⟨_, rfl⟩
  rw [← hck] at hsum hbd
  have HSUM := Lib.hid hsum
  have HCK := Lib.hid hck
  clear hsum hck
  go_wp2_with fail
  refine wp_region_kin_tail 11 (by kernel_rfl) (by kernel_rfl) ?_
  simp only [List.take_succ_cons, List.take_zero, List.drop_succ_cons, List.drop_zero]
  repeat go_big_quiet_step ((go_at_call 106; exact kin_made (HSUM.out _)))
  refine wpQuiet_nil ?_
  intro q
  have hS7 := HS6.out.made q.below
  have hK7 := HK6.out.below q.below HK6.out.lt
  clear hcv hsl k0 k1 k2 k3 k4 q0 q1 q2 q3 q4
  generalize q.at_ = w7 at hS7 hK7 ⊢
  have HS7 := Lib.hid hS7
  have HK7 := Lib.hid hK7
  clear hS7 hK7
  go_wp2_with fail
  refine (wire_Put16 g6 6 _ _ cs6 _ w7 HK7.out hbd.1 hbd.2 (by omega) (by rw [HCL.out]; omega)).mono ?_
  rintro e w8 ⟨rfl, hK8, ho8⟩
  have hS8 := HS7.out.only hBg ho8
  have hcv8 : Sem.run Try.prog (convert 123 9 (.slice (some ⟨g6, 0, none⟩) (8 + body.size) cap6)) w8 = .ok (.string (bs (udpA fp tp n ++ bigL ck 2 ++ body.data.toList))) w8 := by
    refine conv_row _ _ _ _ _ (fun j u hu => ?_) (by simp [udpA_length, bigL_length]; have := HSZ.out; omega)
    rw [hK8.cell j]
    exact put_cells (udpA fp tp n) body.data.toList cs6 _ 6 hbd.1 hbd.2 (udpA_length _ _ _) (by rw [← HSZ.out, ← HL.out]; exact HCT.out) j u hu
  obtain ⟨r, hr⟩ : ∃ r, r = bs (udpA fp tp n ++ bigL ck 2 ++ body.data.toList) := ⟨_, rfl⟩
  rw [← hr] at hcv8
  have HR := Lib.hid hr
  have HS8 := Lib.hid hS8
  clear hS8 hK8 ho8 HK7 HS7 hr
  go_wp2
  go_ret2
  refine ⟨?_, HS8.out.bel.mono (by rw [HG.out]; omega)⟩
  have e : r = bs (udpL fa fp ta tp body.data.toList) := by
    rw [HR.out, HCK.out, HL.out, HN.out]
    rfl
  rw [e]
  rfl

end Go.Proofs.Ytmbjinfeinhalaa
