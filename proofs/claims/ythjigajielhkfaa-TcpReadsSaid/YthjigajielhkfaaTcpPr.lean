/- The program's Read of a segment: what it comes to. -/
import Derived.Test.YthjigajielhkfaaTcpPr0
import Derived.Test.YthjigajielhkfaaTcpRr
namespace Go.Proofs.Ythjigajielhkfaa
open Go.RowKit Sy
set_option linter.unusedVariables false
set_option linter.unusedSimpArgs false

set_option maxRecDepth 100000 in
theorem and_all : ∀ n : Fin 256, bits .and .u8 ((n : Nat) : Int) 15 = ((n : Nat) : Int) % 16 ∧ (decide (0 < bits .and .u8 ((n : Nat) : Int) 2) = decide (0 < ((n : Nat) : Int) / 2 % 2)) ∧ (decide (0 < bits .and .u8 ((n : Nat) : Int) 1) = decide (0 < ((n : Nat) : Int) % 2)) ∧
    (decide (0 < bits .and .u8 ((n : Nat) : Int) 4) = decide (0 < ((n : Nat) : Int) / 4 % 2)) ∧ ((n : Nat) < 32 → decide (0 < bits .and .u8 ((n : Nat) : Int) 16) = decide (0 < ((n : Nat) : Int) / 16)) := by decide
theorem and_at (x : Int) (h0 : 0 ≤ x) (h1 : x ≤ 255) : bits .and .u8 x 15 = x % 16 ∧ (decide (0 < bits .and .u8 x 2) = decide (0 < x / 2 % 2)) ∧ (decide (0 < bits .and .u8 x 1) = decide (0 < x % 2)) ∧
    (decide (0 < bits .and .u8 x 4) = decide (0 < x / 4 % 2)) ∧ (x < 32 → decide (0 < bits .and .u8 x 16) = decide (0 < x / 16)) := by
  obtain ⟨n, rfl⟩ := Int.eq_ofNat_of_zero_le h0
  have := and_all ⟨n, by omega⟩
  refine ⟨this.1, this.2.1, this.2.2.1, this.2.2.2.1, fun h => this.2.2.2.2 (by show n < 32; omega)⟩
theorem zd_get (s : ByteArray) (j : Nat) (hj : 20 ≤ j) : (s.extract 0 16 ++ (ByteArray.mk ([0, 0] : List UInt8).toArray ++ s.extract 18 s.size)).data.toList[j]? = s.data.toList[j]? := by
  have hl : s.data.toList.length = s.size := rfl
  simp only [ByteArray.data_append, Array.toList_append, ByteArray.data_extract, Array.toList_extract, List.extract_eq_take_drop]
  by_cases h : 18 ≤ s.size
  · rw [List.getElem?_append_right (by simp; omega), List.getElem?_append_right (by simp; omega), List.getElem?_take, List.getElem?_drop]
    simp only [List.length_take, List.length_drop, List.length_cons, List.length_nil]
    split
    · congr 1
      omega
    · rw [List.getElem?_eq_none (by omega)]
  · rw [List.getElem?_eq_none (by simp; omega), List.getElem?_eq_none (by omega)]
theorem num_18 (s : ByteArray) (h : 20 ≤ s.size) : numA s 18 20 = Sy.byteOf s 18 * 256 + Sy.byteOf s 19 := by
  have hl : s.data.toList.length = s.size := rfl
  unfold numA Sy.byteOf
  have e : (s.extract 18 20).data.toList = [s.data.toList.getD 18 0, s.data.toList.getD 19 0] := by
    simp only [ByteArray.data_extract, Array.toList_extract, List.extract_eq_take_drop]
    apply List.ext_getElem?
    intro i
    rw [List.getElem?_take, List.getElem?_drop]
    rcases i with _ | _ | i
    · rw [if_pos (by omega), List.getD, List.getElem?_eq_getElem (by omega)]
      simp
    · rw [if_pos (by omega), List.getD, List.getD, List.getElem?_eq_getElem (l := s.data.toList) (i := 18 + 1) (by omega)]
      simp
    · rw [if_neg (by omega)]
      simp
  rw [e]
  simp [numL]
def ackB (s : ByteArray) : Bool := decide (0 < bits .and .u8 (Sy.byteOf s 13) 16)
def prSeg (s : ByteArray) (src dst m : Int) : Value :=
  segV src (numA s 0 2) dst (numA s 2 4) (numA s 4 8) (numA s 8 12) (decide (0 < Sy.byteOf s 13 / 2 % 2)) (ackB s) (decide (0 < Sy.byteOf s 13 % 2)) (decide (0 < Sy.byteOf s 13 / 4 % 2)) (numA s 14 16) m (s.extract (rdTo s).toNat s.size)
def prChkE (s : ByteArray) (m : Int) : Int :=
  tcpErr (numA s 0 2) (numA s 2 4) (numA s 8 12) (decide (0 < Sy.byteOf s 13 / 2 % 2)) (ackB s) (decide (0 < Sy.byteOf s 13 % 2)) (decide (0 < Sy.byteOf s 13 / 4 % 2)) (numA s 14 16) m (s.extract (rdTo s).toNat s.size).size
theorem ackB_eq {s : ByteArray} (h13 : Sy.byteOf s 13 < 32) : ackB s = decide (0 < Sy.byteOf s 13 / 16) := (and_at _ (byteOf_bd s 13).1 (byteOf_bd s 13).2).2.2.2.2 h13
theorem prSeg_eq {s : ByteArray} {src dst m : Int} (h13 : Sy.byteOf s 13 < 32) : prSeg s src dst m = rdSeg s src dst m := by
  unfold prSeg rdSeg
  rw [ackB_eq h13]
theorem prChkE_eq {s : ByteArray} {m : Int} (h13 : Sy.byteOf s 13 < 32) : prChkE s m = rdChk s m := by
  unfold prChkE rdChk
  rw [ackB_eq h13]
theorem prC_den {s : ByteArray} {src dst m e : Int} (β : Bn) : V1.den (mkEnv [src, dst, m, e] [] [s] []) β (.agg prC) = prSeg s src dst m := by
  show Value.agg (denL _ β prC).toArray = Value.agg (segL _ _ _ _ _ _ _ _ _ _ _ _ _).toArray
  congr 2
  have hb := byteOf_bd s 13
  obtain ⟨_, e2, e3, e4, _⟩ := and_at _ hb.1 hb.2
  rw [← e2, ← e3, ← e4]
  rfl
set_option maxRecDepth 100000 in
set_option maxHeartbeats 4000000 in
theorem tcp_Read_any (s : ByteArray) (src dst e er : Int) (r : Option Int) (w : World) (hi : RdIn s src dst) (hr : optF s (rdTo s - 20).toNat 20 (rdTo s - 20) 0 = r) (he : ∀ m, r = some m → rdChk s m = e) (her : rdEr s src dst r e = er) :
    Calls Try.prog 107 #[.int .u32 src, .int .u32 dst, .string s] w fun x w' => ∃ v, x = .returned v ∧ RdR s src dst r er w v w' := by
  have b12 := byteOf_bd s 12
  have b13 := byteOf_bd s 13
  have b18 := byteOf_bd s 18
  have b19 := byteOf_bd s 19
  have h15 := (and_at _ b12.1 b12.2).1
  have hz := numA_bd s 18 20 2 (by omega)
  have hzd : ∀ ρ : Env, ρ.s 0 = s → ∀ n o len m, 20 ≤ o → optF (den ρ zdT).s n o len m = optF s n o len m := fun ρ hs n o len m ho => by
    refine optF_congr (fun j hj => ?_) n o len m ho
    show ((ρ.s 0).extract 0 16 ++ (ByteArray.mk ([0, 0] : List UInt8).toArray ++ (ρ.s 0).extract 18 (((ρ.s 0).size : Nat) : Int).toNat)).data.toList[j]? = _
    rw [hs]
    exact zd_get s j hj
  have hopt : ∀ (m e : Int) (rt : Option Tm), r = rt.map (fun t => (den (mkEnv [src, dst, m, e] [] [s] []) t).i) → (optSp zdT (.il 20) (.add toT (.il (-20))) rt).Ok Try.prog (mkEnv [src, dst, m, e] [] [s] []) := fun m e rt hrt => by
    refine optSp_ok (fun i => rfl) ?_
    rw [← hrt]
    show optF (den (mkEnv [src, dst, m, e] [] [s] []) zdT).s (rdTo s + -20).toNat 20 (rdTo s + -20) 0 = r
    rw [hzd (mkEnv [src, dst, m, e] [] [s] []) rfl _ _ _ _ (Int.le_refl 20)]
    rw [show rdTo s + -20 = rdTo s - 20 from by omega]
    exact hr
  have hchk : ∀ m : Int, 0 ≤ m → m ≤ 65535 → prChk.Ok Try.prog (mkEnv [src, dst, m, prChkE s m] [] [s] []) := fun m h0 h1 => by
    refine fixSp_ok fun xs hx β w => ?_
    have e1 := sameT_eq hx
    subst e1
    have hv : ([SV.one (.agg prC)].map (SV.den (mkEnv [src, dst, m, prChkE s m] [] [s] []) β)).toArray = #[prSeg s src dst m] := by
      show #[V1.den (mkEnv [src, dst, m, prChkE s m] [] [s] []) β (.agg prC)] = _
      rw [prC_den]
    rw [hv]
    exact (tcp_Check_any (hi.seg h0 h1) _ _ _ _ w _ rfl).mono fun e' w' h => h
  have sps : ∀ (m : Int) (rt : Option Tm), 0 ≤ m → m ≤ 65535 → r = rt.map (fun t => (den (mkEnv [src, dst, m, prChkE s m] [] [s] []) t).i) → ∀ q ∈ prSp rt, q.Ok Try.prog (mkEnv [src, dst, m, prChkE s m] [] [s] []) := fun m rt h0 h1 hrt q hq => by
    rcases List.mem_cons.1 hq with rfl | hq
    · exact chkSp_ok rfl
    · rcases List.mem_cons.1 hq with rfl | hq
      · exact get16Sp_ok rfl
      · rcases List.mem_cons.1 hq with rfl | hq
        · exact get32Sp_ok rfl
        · rcases List.mem_cons.1 hq with rfl | hq
          · exact hopt m _ rt hrt
          · rcases List.mem_cons.1 hq with rfl | hq
            · exact hchk m h0 h1
            · cases hq
  have bad : ∀ (ρ : Env) (n : Int) (pc : List Tm), (pcs ρ pc → er = n ∧ er ≠ 0) → Sm.done ⟨ρ, fun _ => False, w, fun _ => 0, 0⟩ (RdR s src dst r er w) (.ret (.tup [.agg zeroC, .c (.int .i64 (.il n))]) [] pc) := by
    intro ρ n pc hp hpc β w' hH
    obtain ⟨h1, h2⟩ := hp hpc
    refine ⟨?_, Sy.Only.below_all hH.only⟩
    rw [rdVal_bad h2, h1]
    rfl
  have hEr := her
  unfold rdEr rdErr at hEr
  have hto : rdTo s = Sy.byteOf s 12 / 16 * 4 := rfl
  cases hrr : r with
  | none =>
    have hoe : rdOe r = 4 := by rw [hrr]; rfl
    rw [hoe] at hEr
    have hn : (den (mkEnv [src, dst, 0, prChkE s 0] [] [s] []) (.ap 0 (.cut (.sv 0) (.il 16) (.il 18)) (.il 0) (.il 0))).i = numA s 16 18 := rfl
    have hf : (den (mkEnv [src, dst, 0, prChkE s 0] [] [s] []) (.ap 1 sumT (.il 0) (.il 0))).i = rdSum src dst s := rfl
    have hb : (den (mkEnv [src, dst, 0, prChkE s 0] [] [s] []) (.bop .and .u8 (.byte (.sv 0) (.il 12)) (.il 15))).i = Sy.byteOf s 12 % 16 := h15
    have hs0 : (mkEnv [src, dst, 0, prChkE s 0] [] [s] []).s 0 = s := rfl
    rw [← hrr]
    refine calls_sm (B := ⟨mkEnv [src, dst, 0, prChkE s 0] [] [s] [], fun _ => False, w, fun _ => 0, 0⟩) (sp := prSp none) (fun i => rfl) (sps 0 none (Int.le_refl 0) (by omega) hrr) 10 400 Try.func107 rfl rdArgs ⟨[], [], rdCx, 0⟩ _ 0 rfl pr_run0 (Md.start (rdCx_ok hi rfl rfl rfl)) (R := RdR s src dst r er w) ?_ rfl
    refine ⟨?_, ?_, ?_, ?_, ?_, ?_, ?_, ?_, ?_, trivial⟩
    all_goals
      refine bad _ _ _ fun hpc => ?_
      simp only [pcs, t_lt, t_le, t_eq, t_not, i_iv, i_il, i_add, i_sub, i_mul, i_dv, i_md, i_len, i_byte, s_sv, hs0, hn, hf, hb, and_true] at hpc
      by_cases h20 : 20 ≤ s.size
      · have h18 := num_18 s h20
        (repeat' split at hEr) <;> omega
      · rw [if_pos (by omega)] at hEr
        omega
  | some m =>
    have hm := optF_bd _ _ _ _ _ (Int.le_refl 0) (by omega) (hr.trans hrr)
    have hoe : rdOe r = 0 := by rw [hrr]; rfl
    rw [hoe] at hEr
    have hec := he m hrr
    have hn : (den (mkEnv [src, dst, m, prChkE s m] [] [s] []) (.ap 0 (.cut (.sv 0) (.il 16) (.il 18)) (.il 0) (.il 0))).i = numA s 16 18 := rfl
    have hf : (den (mkEnv [src, dst, m, prChkE s m] [] [s] []) (.ap 1 sumT (.il 0) (.il 0))).i = rdSum src dst s := rfl
    have hb : (den (mkEnv [src, dst, m, prChkE s m] [] [s] []) (.bop .and .u8 (.byte (.sv 0) (.il 12)) (.il 15))).i = Sy.byteOf s 12 % 16 := h15
    have hs0 : (mkEnv [src, dst, m, prChkE s m] [] [s] []).s 0 = s := rfl
    have hi3 : (mkEnv [src, dst, m, prChkE s m] [] [s] []).i 3 = prChkE s m := rfl
    have hce : Sy.byteOf s 13 < 32 → prChkE s m = e := fun h => by rw [prChkE_eq h, hec]
    rw [← hrr]
    refine calls_sm (B := ⟨mkEnv [src, dst, m, prChkE s m] [] [s] [], fun _ => False, w, fun _ => 0, 0⟩) (sp := prSp (some (.iv 2))) (fun i => rfl) (sps m (some (.iv 2)) hm.1 hm.2 hrr) 10 400 Try.func107 rfl rdArgs ⟨[], [], rdCx, 0⟩ _ 0 rfl pr_run1 (Md.start (rdCx_ok hi rfl rfl rfl)) (R := RdR s src dst r er w) ?_ rfl
    refine ⟨?_, ?_, ?_, ?_, ?_, ?l6, ?l7, ?_, ?_, ?_, trivial⟩
    case l6 =>
      intro hpc β w' hH
      replace hpc : pcs (mkEnv [src, dst, m, prChkE s m] [] [s] []) _ := hpc
      simp only [pcs, t_lt, t_le, t_eq, t_not, i_iv, i_il, i_add, i_sub, i_mul, i_dv, i_md, i_len, i_byte, s_sv, hs0, hn, hf, hb, hi3, and_true] at hpc
      refine ⟨?_, Sy.Only.below_all hH.only⟩
      have h18 := num_18 s (by omega)
      have h3 := hce (by omega)
      have hE : er = e := by (repeat' split at hEr) <;> omega
      rw [rdVal_bad (by omega)]
      show Value.tuple #[zeroSeg, .int .i64 (prChkE s m)] = _
      rw [h3, hE]
    case l7 =>
      intro hpc β w' hH
      replace hpc : pcs (mkEnv [src, dst, m, prChkE s m] [] [s] []) _ := hpc
      simp only [pcs, t_lt, t_le, t_eq, t_not, i_iv, i_il, i_add, i_sub, i_mul, i_dv, i_md, i_len, i_byte, s_sv, hs0, hn, hf, hb, hi3, and_true] at hpc
      refine ⟨?_, Sy.Only.below_all hH.only⟩
      have h18 := num_18 s (by omega)
      have h3 := hce (by omega)
      have hE : er = 0 := by (repeat' split at hEr) <;> omega
      rw [hE, hrr]
      show Value.tuple #[V1.den (mkEnv [src, dst, m, prChkE s m] [] [s] []) β (.agg prC), .int .i64 0] = .tuple #[rdSeg s src dst m, .int .i64 0]
      rw [prC_den, prSeg_eq (by omega)]
    all_goals
      refine bad _ _ _ fun hpc => ?_
      simp only [pcs, t_lt, t_le, t_eq, t_not, i_iv, i_il, i_add, i_sub, i_mul, i_dv, i_md, i_len, i_byte, s_sv, hs0, hn, hf, hb, and_true] at hpc
      by_cases h20 : 20 ≤ s.size
      · have h18 := num_18 s h20
        (repeat' split at hEr) <;> omega
      · rw [if_pos (by omega)] at hEr
        omega
#print axioms tcp_Read_any
end Go.Proofs.Ythjigajielhkfaa
