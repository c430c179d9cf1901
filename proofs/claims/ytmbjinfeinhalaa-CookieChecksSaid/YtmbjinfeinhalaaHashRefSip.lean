/- The reference's SipHash. -/
import Derived.Test.YtmbjinfeinhalaaHashRef
namespace Go.Proofs.Ytmbjinfeinhalaa
open Go.RowKit
set_option linter.unusedVariables false

theorem Held4.laid (w : World) (a b c d : Int) : Held4 ((((w.alloc (Obj.cells #[.int .u64 a] 56)).alloc (Obj.cells #[.int .u64 b] 56)).alloc (Obj.cells #[.int .u64 c] 56)).alloc (Obj.cells #[.int .u64 d] 56)) w.heap.size (w.heap.size + 1) (w.heap.size + 1 + 1) (w.heap.size + 1 + 1 + 1) ⟨a, b, c, d⟩ := by
  refine ⟨(((Blk.new w _ [.int .u64 a]).alloc _).alloc _).alloc _, ?_, ?_, ?_⟩
  · have h := ((Blk.new (w.alloc (Obj.cells #[.int .u64 a] 56)) 56 [.int .u64 b]).alloc (Obj.cells #[.int .u64 c] 56)).alloc (Obj.cells #[.int .u64 d] 56)
    rw [World.size_alloc] at h
    exact h
  · have h := (Blk.new ((w.alloc (Obj.cells #[.int .u64 a] 56)).alloc (Obj.cells #[.int .u64 b] 56)) 56 [.int .u64 c]).alloc (Obj.cells #[.int .u64 d] 56)
    rw [World.size_alloc, World.size_alloc] at h
    exact h
  · have h := Blk.new (((w.alloc (Obj.cells #[.int .u64 a] 56)).alloc (Obj.cells #[.int .u64 b] 56)).alloc (Obj.cells #[.int .u64 c] 56)) 56 [.int .u64 d]
    rw [World.size_alloc, World.size_alloc, World.size_alloc] at h
    exact h

theorem Held4.below {w w' : World} {ga gb gc gd : Nat} {v : V4} (h : Held4 w ga gb gc gd v) (hb : Below w.heap.size w w') : Held4 w' ga gb gc gd v :=
  ⟨h.A.below hb h.A.lt, h.B.below hb h.B.lt, h.C.below hb h.C.lt, h.D.below hb h.D.lt⟩
theorem sipBody_succ : ∀ (J : Nat) (l : List UInt8) (v : V4), sipBody (J + 1) l v = absorb (sipBody J l v) (leN ((l.drop (8 * J)).take 8) : Int)
  | 0, l, v => rfl
  | J + 1, l, v => by
    rw [sipBody, sipBody_succ J, sipBody, List.drop_drop, show 8 * (J + 1) = 8 + 8 * J from by omega]
theorem sipBody_append : ∀ (J : Nat) (l m : List UInt8) (v : V4), 8 * J ≤ l.length → sipBody J (l ++ m) v = sipBody J l v
  | 0, l, m, v, _ => rfl
  | J + 1, l, m, v, h => by
    rw [sipBody, sipBody, List.drop_append_of_le_length (by omega), List.take_append_of_le_length (by omega), sipBody_append J _ _ _ (by rw [List.length_drop]; omega)]
theorem leN_zeros : ∀ (l : List UInt8) (z : Nat), leN (l ++ List.replicate z 0) = leN l
  | [], z => by
    induction z with
    | zero => rfl
    | succ z ih =>
      rw [List.nil_append] at ih
      rw [List.replicate_succ, List.nil_append]
      show (0 : UInt8).toNat + 256 * leN (List.replicate z 0) = 0
      rw [ih]
      rfl
  | b :: t, z => by rw [List.cons_append, leN, leN_zeros t z, leN]
/-- The padded text says what the program's last number says. -/
theorem sip_pad (l : List UInt8) (c : UInt8) (v : V4) : sipBody (l.length / 8 + 1) (l ++ List.replicate (8 * (l.length / 8) + 7 - l.length) 0 ++ [c]) v = absorb (sipBody (l.length / 8) l v) ((leN (l.drop (8 * (l.length / 8))) + c.toNat * 72057594037927936 : Nat) : Int) := by
  rw [sipBody_succ, List.append_assoc, sipBody_append _ _ _ _ (by omega), List.drop_append_of_le_length (by omega), ← List.append_assoc, List.take_of_length_le (by simp; omega), leN_snoc, leN_zeros]
  rw [show (l.drop (8 * (l.length / 8)) ++ List.replicate (8 * (l.length / 8) + 7 - l.length) (0 : UInt8)).length = 7 from by simp; omega]

theorem four_ge {ga gb gc gd : Nat} (h : ga ≤ gb ∧ ga ≤ gc ∧ ga ≤ gd) : ∀ i, (i = ga ∨ i = gb ∨ i = gc ∨ i = gd) → ga ≤ i := by
  rintro i (rfl | rfl | rfl | rfl) <;> omega

set_option maxRecDepth 100000 in
set_option maxHeartbeats 2000000 in
theorem ref_SipHash (k0 k1 : Int) (s : ByteArray) (w : World) (hs : s.size ≤ 140737488355320) :
    Calls Try.prog 117 #[.int .u64 k0, .int .u64 k1, .string s] w fun e w' => e = .returned (.int .u64 (sipF k0 k1 s.data.toList)) ∧ Below w.heap.size w w' := by
  obtain ⟨J, hJ⟩ : ∃ J, J = s.size / 8 := ⟨_, rfl⟩
  have hxor : ∀ x y : Int, bits BinOp.xor IntKind.u64 x y = xorW x y := fun _ _ => rfl
  have HJ := Lib.hid hJ
  clear hJ
  go_enter Try.func117, Try.ntmps117
  go_upto_region 2 with fail
  have hB : Held4 ((((w.alloc (Obj.cells #[.int .u64 (xorW k0 8317987319222330741)] 56)).alloc (Obj.cells #[.int .u64 (xorW k1 7237128888997146477)] 56)).alloc (Obj.cells #[.int .u64 (xorW k0 7816392313619706465)] 56)).alloc (Obj.cells #[.int .u64 (xorW k1 8387220255154660723)] 56)) w.heap.size (w.heap.size + 1) (w.heap.size + 1 + 1) (w.heap.size + 1 + 1 + 1) (sipStart k0 k1) := Held4.laid w _ _ _ _
  have ho : Below w.heap.size w ((((w.alloc (Obj.cells #[.int .u64 (xorW k0 8317987319222330741)] 56)).alloc (Obj.cells #[.int .u64 (xorW k1 7237128888997146477)] 56)).alloc (Obj.cells #[.int .u64 (xorW k0 7816392313619706465)] 56)).alloc (Obj.cells #[.int .u64 (xorW k1 8387220255154660723)] 56)) := by go_grown
  generalize ((((w.alloc (Obj.cells #[.int .u64 (xorW k0 8317987319222330741)] 56)).alloc (Obj.cells #[.int .u64 (xorW k1 7237128888997146477)] 56)).alloc (Obj.cells #[.int .u64 (xorW k0 7816392313619706465)] 56)).alloc (Obj.cells #[.int .u64 (xorW k1 8387220255154660723)] 56)) = w1 at hB ho ⊢
  generalize hga : w.heap.size = ga at hB ho ⊢
  generalize hgb : ga + 1 = gb at hB ho ⊢
  generalize hgc : gb + 1 = gc at hB ho ⊢
  generalize hgd : gc + 1 = gd at hB ho ⊢
  generalize xorW k0 8317987319222330741 = a
  generalize xorW k1 7237128888997146477 = b
  generalize xorW k0 7816392313619706465 = c
  generalize xorW k1 8387220255154660723 = d
  have hap : Apart4 ga gb gc gd := ⟨by omega, by omega, by omega, by omega, by omega, by omega⟩
  have hge : ga ≤ gb ∧ ga ≤ gc ∧ ga ≤ gd := by omega
  have HA := Lib.hid hap
  have HG := Lib.hid hge
  have HGA := Lib.hid hga
  have HW : Hid (Held4 w1 ga gb gc gd (sipStart k0 k1) ∧ Below ga w w1) := ⟨hB, ho⟩
  clear hap hge hga hgb hgc hgd hB ho hxor
  go_wp2
  go_loopw [2] (fun t wr => ∃ u : ByteArray, t = .string u ∧ s.size ≤ u.size ∧ u.size ≤ s.size + 7 ∧ Hid (u.size / 8 = J) ∧ Hid (u.data.toList = s.data.toList ++ List.replicate (u.size - s.size) 0) ∧ Hid (Held4 wr ga gb gc gd (sipStart k0 k1) ∧ Below ga w wr)) (fun t _ => match t with | .string u => 7 - u.size % 8 | _ => 0)
  case atStart => exact ⟨s, rfl, Nat.le_refl _, by omega, HJ.out.symm, by show _ = _; simp, HW.out⟩
  case round =>
    obtain ⟨u, rfl, h1, h2, HU, HD, HX⟩ := hrel
    clear HW
    have hz : (bs [byt 0]).size ≤ 1 := Nat.le_refl _
    have hz2 : (bs [byt ((s.size : Int) % 256)]).size ≤ 1 := Nat.le_refl _
    by_cases hlt : u.size % 8 = 7
    · go_wp2_with (go_at_call 101; refine (ref_chr _ _ (by omega) (by omega)).mono ?_; rintro e w2 ⟨rfl, hb2⟩)
      have hus : u.size = 8 * J + 7 := by have := HU.out; omega
      obtain ⟨S, hS⟩ : ∃ S, S = u ++ bs [byt ((s.size : Int) % 256)] := ⟨_, rfl⟩
      have hSs : S.size = 8 * (J + 1) := by rw [hS, ByteArray.size_append, hus]; rfl
      have hSd : S.data.toList = s.data.toList ++ List.replicate (8 * J + 7 - s.size) 0 ++ [byt ((s.size : Int) % 256)] := by
        rw [hS, ByteArray.data_append, Array.toList_append, HD.out, hus]
        rfl
      rw [← hS]
      obtain ⟨V, hV⟩ : ∃ V, V = sipBody (J + 1) S.data.toList (sipStart k0 k1) := ⟨_, rfl⟩
      have HV := Lib.hid hV
      have HSD := Lib.hid hSd
      have HW2 : Hid (Held4 w2 ga gb gc gd (sipStart k0 k1) ∧ Below ga w w2) := ⟨HX.out.1.below hb2, HX.out.2.trans (hb2.mono (Nat.le_of_lt HX.out.1.A.lt))⟩
      have hJb : 8 * (J + 1) ≤ 140737488355328 := by omega
      clear hV hS hSd HD HX hb2 hz hz2 hus hlt
      go_loopw [13] (fun t wr => ∃ (i : Nat) (v : V4), i ≤ J + 1 ∧ t = .int .i64 (8 * (i : Int)) ∧ Hid (sipBody (J + 1 - i) (S.data.toList.drop (8 * i)) v = V) ∧ Hid (Held4 wr ga gb gc gd v ∧ Below ga w wr)) (fun t _ => 8 * (J + 1) - (intOf t).toNat)
      case atStart => exact ⟨0, sipStart k0 k1, by omega, rfl, HV.out.symm, HW2.out⟩
      case round =>
        obtain ⟨i, v, hi, rfl, HB, HX⟩ := hrel
        clear HW2
        by_cases hlt2 : i < J + 1
        · go_wp2_with fail
          obtain ⟨L, hL⟩ : ∃ L, L = (S.data.toList.drop (8 * i)).take 8 := ⟨_, rfl⟩
          have hSl := Lib.size_eq S
          have hLl : L.length = 8 := by rw [hL, List.length_take, List.length_drop]; omega
          have HL := Lib.hid hL
          have HSl := Lib.hid hSl
          clear hL hSl
          go_loop [14, 15] (fun m x => ∃ (N : Nat) (y : Int), m = .int .u64 (N : Int) ∧ x = .int .i64 y ∧ -1 ≤ y ∧ y ≤ 7 ∧ Hid (N = leN (L.drop (y + 1).toNat))) (fun _ x => (intOf x + 1).toNat)
          case atStart => exact ⟨0, 7, rfl, rfl, by omega, by omega, by show _ = _; rw [List.drop_of_length_le (by rw [hLl]; omega)]; rfl⟩
          case round =>
            obtain ⟨N, y, rfl, rfl, hy1, hy2, HN⟩ := hrel
            by_cases hy : 0 ≤ y
            · obtain ⟨q, rfl⟩ := Int.eq_ofNat_of_zero_le hy
              obtain ⟨b', hb⟩ : ∃ b : Nat, (S[8 * i + q]'(by omega)).toNat = b := ⟨_, rfl⟩
              have h0 : ∀ W, (Instr.index 9 (.string S) (.int .i64 (8 * (i : Int) + (q : Int)))).run Try.prog W = .ok (.int .u8 (b' : Int)) W := fun W => by
                rw [← hb]
                exact run_str_at S (8 * i + q) (by omega) W
              have hb1 : b' ≤ 255 := by have := (S[8 * i + q]'(by omega)).toNat_lt; omega
              have hn : leN (L.drop q) = b' + 256 * N := by
                have e1 := List.drop_eq_getElem_cons (l := L) (i := q) (by omega)
                rw [e1, leN]
                have e2 : L[q]'(by omega) = S[8 * i + q]'(by omega) := by
                  have := HL.out
                  subst this
                  rw [List.getElem_take, List.getElem_drop, getElem_data S (8 * i + q) (by omega)]
                rw [e2, hb, HN.out, show ((q : Int) + 1).toNat = q + 1 from by omega]
              have hN7 : N < 72057594037927936 := by
                rw [HN.out]
                refine Nat.lt_of_lt_of_le (leN_lt _) (Nat.le_trans (Nat.pow_le_pow_right (by omega) (?_ : _ ≤ 7)) (Nat.le_refl _))
                rw [List.length_drop, hLl]
                omega
              have e1 : IntKind.u64.wrap ((N : Int) * 256) = (N : Int) * 256 := IntWalk.u64_in _ (by omega)
              have e2 := ((u64_or_nat (N * 256) b' (by omega) (by omega)).trans (by rw [nat_join 8 (N * 256) b' (by omega) (by omega)]) : bits BinOp.or IntKind.u64 ((N * 256 : Nat) : Int) (b' : Int) = ((N * 256 + b' : Nat) : Int))
              rw [show ((N * 256 : Nat) : Int) = (N : Int) * 256 from by omega] at e2
              have HN2 := Lib.hid hn
              clear hn hb
              go_wp2
              go_round
              case rel => exact ⟨N * 256 + b', (q : Int) - 1, by go_num, by go_num, by omega, by omega, by show _ = _; rw [show ((q : Int) - 1 + 1).toNat = q from by omega, HN2.out]; omega⟩
              case measure => simp only [intOf]; omega
            · obtain rfl : y = -1 := by omega
              have HN3 : Hid (N = leN L) := by have := HN.out; show _ = _; simpa using this
              clear HN
              obtain ⟨va, vb, vc, vd⟩ := v
              obtain ⟨hB, ho⟩ := HX.out
              have hxor : ∀ x y : Int, bits BinOp.xor IntKind.u64 x y = xorW x y := fun _ _ => rfl
              have k3 : wr.cell? ⟨gd, 0, none⟩ = some (.int .u64 vd) := hB.D.at_ (i := 0) rfl
              have f3 : wr.frozen? ⟨gd, 0, none⟩ = false := hB.D.frozen 0
              have HY := Lib.hid hB
              have HO := Lib.hid ho
              clear hB ho HX
              go_wp2_with fail
              refine (ref_rounds 2 ga gb gc gd _ _ (by omega) (HY.out.setD HA.out (xorW vd N)) HA.out).mono ?_
              rintro e w3 ⟨rfl, hb3, ho3⟩
              have hO3 : Below ga w w3 := (((Only.refl _ wr).setCell (p := ⟨gd, 0, none⟩) (.inl (.inr (.inr (.inr rfl)))) _).trans ho3).below HO.out (Nat.le_of_lt HY.out.A.lt) (four_ge HG.out)
              clear HY HO ho3 k3 f3
              obtain ⟨ua, ub, uc, ud, hu⟩ : ∃ ua ub uc ud, rnds 2 ⟨va, vb, vc, xorW vd N⟩ = ⟨ua, ub, uc, ud⟩ := ⟨_, _, _, _, rfl⟩
              rw [hu] at hb3
              have HU2 := Lib.hid hu
              have k0 : w3.cell? ⟨ga, 0, none⟩ = some (.int .u64 ua) := hb3.A.at_ (i := 0) rfl
              have f0 : w3.frozen? ⟨ga, 0, none⟩ = false := hb3.A.frozen 0
              have HY := Lib.hid hb3
              have HO := Lib.hid hO3
              clear hu hb3 hO3
              go_wp2_with fail
              go_roundw
              case rel =>
                refine ⟨i + 1, absorb ⟨va, vb, vc, vd⟩ N, by omega, by go_num, ?_, (HY.out.setA HA.out _).cast ?_, ((Only.refl (fun k => k = ga ∨ k = gb ∨ k = gc ∨ k = gd) w3).setCell (p := ⟨ga, 0, none⟩) (.inl (.inl rfl)) _).below HO.out (Nat.le_of_lt HY.out.A.lt) (four_ge HG.out)⟩
                · have h := HB.out
                  rw [show J + 1 - i = (J + 1 - (i + 1)) + 1 from by omega, sipBody, List.drop_drop, ← HL.out, ← HN3.out] at h
                  rw [show 8 * (i + 1) = 8 * i + 8 from by omega]
                  exact h
                · have h := HU2.out
                  simp only [rnds] at h
                  simp only [absorb, h]
              case measure => simp only [intOf]; omega
        · obtain rfl : i = J + 1 := by omega
          have HV2 : Hid (v = V) := by have h := HB.out; rw [Nat.sub_self] at h; exact h
          clear HB
          obtain ⟨va, vb, vc, vd⟩ := v
          obtain ⟨hB, ho⟩ := HX.out
          have hxor : ∀ x y : Int, bits BinOp.xor IntKind.u64 x y = xorW x y := fun _ _ => rfl
          have k2 : wr.cell? ⟨gc, 0, none⟩ = some (.int .u64 vc) := hB.C.at_ (i := 0) rfl
          have f2 : wr.frozen? ⟨gc, 0, none⟩ = false := hB.C.frozen 0
          have HY := Lib.hid hB
          have HO := Lib.hid ho
          clear hB ho HX
          go_wp2_with fail
          refine (ref_rounds 4 ga gb gc gd _ _ (by omega) (HY.out.setC HA.out (xorW vc 255)) HA.out).mono ?_
          rintro e w3 ⟨rfl, hb3, ho3⟩
          have hO3 : Below ga w w3 := (((Only.refl _ wr).setCell (p := ⟨gc, 0, none⟩) (.inl (.inr (.inr (.inl rfl)))) _).trans ho3).below HO.out (Nat.le_of_lt HY.out.A.lt) (four_ge HG.out)
          clear HY HO ho3 k2 f2
          obtain ⟨ua, ub, uc, ud, hu⟩ : ∃ ua ub uc ud, rnds 4 ⟨va, vb, xorW vc 255, vd⟩ = ⟨ua, ub, uc, ud⟩ := ⟨_, _, _, _, rfl⟩
          rw [hu] at hb3
          have HU2 := Lib.hid hu
          have k0 : w3.cell? ⟨ga, 0, none⟩ = some (.int .u64 ua) := hb3.A.at_ (i := 0) rfl
          have k1 : w3.cell? ⟨gb, 0, none⟩ = some (.int .u64 ub) := hb3.B.at_ (i := 0) rfl
          have k2 : w3.cell? ⟨gc, 0, none⟩ = some (.int .u64 uc) := hb3.C.at_ (i := 0) rfl
          have k3 : w3.cell? ⟨gd, 0, none⟩ = some (.int .u64 ud) := hb3.D.at_ (i := 0) rfl
          have HO := Lib.hid hO3
          clear hu hb3 hO3
          go_wp2_with fail
          go_ret
          refine ⟨ret_int ?_, by rw [HGA.out]; exact HO.out⟩
          have hl := Lib.size_eq s
          have hv := HV2.out.trans HV.out
          rw [HSD.out, HJ.out, hl, sip_pad] at hv
          rw [show (byt ((s.data.toList.length : Int) % 256)).toNat = s.data.toList.length % 256 from by have := u8_nat (n := (s.data.toList.length : Int) % 256) (by omega) (by omega); omega] at hv
          unfold sipF sipEnd
          rw [← hv]
          show _ = xorW (xorW (xorW (rnds 4 ⟨va, vb, xorW vc 255, vd⟩).a _) _) _
          rw [HU2.out]
    · go_wp2_with (go_at_call 101; refine (ref_chr _ _ (by omega) (by omega)).mono ?_; rintro e w2 ⟨rfl, hb2⟩)
      go_roundw
      case rel =>
        have hsz : (u ++ bs [byt 0]).size = u.size + 1 := by rw [ByteArray.size_append]; rfl
        have hU := HU.out
        have hJ := HJ.out
        refine ⟨_, rfl, by omega, by omega, by show _ = _; omega, ?_, HX.out.1.below hb2, HX.out.2.trans (hb2.mono (Nat.le_of_lt HX.out.1.A.lt))⟩
        show _ = _
        rw [hsz, ByteArray.data_append, Array.toList_append, HD.out, show u.size + 1 - s.size = (u.size - s.size) + 1 from by omega, List.replicate_succ', List.append_assoc]
        rfl
      case measure =>
        have hsz : (u ++ bs [byt 0]).size = u.size + 1 := by rw [ByteArray.size_append]; rfl
        simp only [hsz]
        omega
end Go.Proofs.Ytmbjinfeinhalaa
