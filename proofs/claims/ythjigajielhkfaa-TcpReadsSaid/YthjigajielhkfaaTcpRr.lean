/- The reference's TcpRead: what it comes to. -/
import Derived.Test.YthjigajielhkfaaTcpRr0
namespace Go.Proofs.Ythjigajielhkfaa
open Go.RowKit Sy
set_option linter.unusedVariables false
set_option linter.unusedSimpArgs false

theorem drop_le {T x y : Int} {n : Nat} (h : (T - x).toNat ≤ n + 1) (h1 : 0 < T - x) (h2 : 1 ≤ y) : (T - (x + y)).toNat ≤ n := by omega
theorem drop_lt {T x y : Int} (h1 : 0 < T - x) (h2 : 1 ≤ y) : (T - (x + y)).toNat < (T - x).toNat := by omega
structure RrI (s : ByteArray) (src dst e : Int) (r : Option Int) (ρ : Env) : Prop where
  g : ρ.good
  f : ρ.f = stdF
  s0 : ρ.s 0 = s
  i0 : ρ.i 0 = src
  i1 : ρ.i 1 = dst
  i3 : ρ.i 3 = e
  le : rdTo s ≤ (s.size : Int)
  lo : 20 ≤ ρ.i 5
  hi : ρ.i 5 ≤ rdTo s
  m0 : 0 ≤ ρ.i 2
  m1 : ρ.i 2 ≤ 65535
  r : ∃ n, (rdTo s - ρ.i 5).toNat ≤ n ∧ optF s n (ρ.i 5) (rdTo s - ρ.i 5) (ρ.i 2) = r
theorem RrI.cx {s : ByteArray} {src dst e : Int} {r : Option Int} {ρ : Env} (h : RrI s src dst e r ρ) (hi : RdIn s src dst) : rrT.cx.ok ρ := by
  have hb := rdCx_ok hi h.s0 h.i0 h.i1
  obtain ⟨h0, h1, h2, h3, h4, h5, h6, h7, h8, h9, h10, h11⟩ := h
  have hs := hi.s
  refine ⟨fun x hx => ?_, fun t ht => ?_⟩
  · change x ∈ [_, _, _, _, _] at hx
    simp only [List.mem_cons, List.not_mem_nil, or_false] at hx
    rcases hx with rfl | rfl | rfl | rfl | rfl
    · exact hb.bs _ (by simp [rdCx])
    · exact hb.bs _ (by simp [rdCx])
    · exact hb.bs _ (by simp [rdCx])
    · show (0 : Int) ≤ ρ.i 2 ∧ ρ.i 2 ≤ 65535
      omega
    · show (20 : Int) ≤ ρ.i 5 ∧ ρ.i 5 ≤ 140737488351232
      omega
  · change t ∈ [_] at ht
    simp only [List.mem_cons, List.not_mem_nil, or_false] at ht
    subst ht
    show decide (Sy.byteOf (ρ.s 0) 12 / 16 * 4 ≤ ((ρ.s 0).size : Int)) = true
    rw [h2]
    exact decide_eq_true h6
theorem rrC_den {s : ByteArray} {src dst e : Int} {r : Option Int} {ρ : Env} (h : RrI s src dst e r ρ) (β : Bn) : V1.den ρ β (.agg rrC) = rdSeg s src dst (ρ.i 2) := by
  show Value.agg (denL ρ β rrC).toArray = Value.agg (segL _ _ _ _ _ _ _ _ _ _ _ _ _).toArray
  congr 2
  show [Value.int .u32 (ρ.i 0), .int .i64 (ρ.f 0 (dS ((ρ.s 0).extract 0 2)) (dI 0) (dI 0)).i, .int .u32 (ρ.i 1), .int .i64 (ρ.f 0 (dS ((ρ.s 0).extract 2 4)) (dI 0) (dI 0)).i, .int .u32 (ρ.f 0 (dS ((ρ.s 0).extract 4 8)) (dI 0) (dI 0)).i, .int .u32 (ρ.f 0 (dS ((ρ.s 0).extract 8 12)) (dI 0) (dI 0)).i,
    .bool (decide (0 < Sy.byteOf (ρ.s 0) 13 / 2 % 2)), .bool (decide (0 < Sy.byteOf (ρ.s 0) 13 / 16)), .bool (decide (0 < Sy.byteOf (ρ.s 0) 13 % 2)), .bool (decide (0 < Sy.byteOf (ρ.s 0) 13 / 4 % 2)), .int .i64 (ρ.f 0 (dS ((ρ.s 0).extract 14 16)) (dI 0) (dI 0)).i, .int .i64 (ρ.i 2), .string ((ρ.s 0).extract (Sy.byteOf (ρ.s 0) 12 / 16 * 4).toNat (((ρ.s 0).size : Nat) : Int).toNat)] = _
  rw [h.f, h.s0, h.i0, h.i1]
  rfl
theorem rrZ_den (ρ : Env) (β : Bn) : V1.den ρ β (.agg zeroC) = zeroSeg := rfl
def RdR (s : ByteArray) (src dst : Int) (r : Option Int) (er : Int) (w : World) (v : Value) (w' : World) : Prop := v = rdVal s src dst (r.getD 0) er ∧ Below w.heap.size w w'
theorem rr_chk_ok {s : ByteArray} {src dst e : Int} {r : Option Int} (hi : RdIn s src dst) {ρ : Env} (h : RrI s src dst e r ρ) (he : rdChk s (ρ.i 2) = e) : rrChk.Ok Try.prog ρ := by
  refine fixSp_ok fun xs hx β w => ?_
  have e1 := sameT_eq hx
  subst e1
  have hv : ([SV.one (.agg rrC)].map (SV.den ρ β)).toArray = #[rdSeg s src dst (ρ.i 2)] := by
    show #[V1.den ρ β (.agg rrC)] = _
    rw [rrC_den h]
  rw [hv]
  have := ref_TcpCheck_any (hi.seg h.m0 h.m1) (decide (0 < Sy.byteOf s 13 / 2 % 2)) (decide (0 < Sy.byteOf s 13 / 16)) (decide (0 < Sy.byteOf s 13 % 2)) (decide (0 < Sy.byteOf s 13 / 4 % 2)) w _ he
  refine this.mono ?_
  rintro e' w' ⟨rfl, hb⟩
  refine ⟨?_, hb⟩
  show _ = Ending.returned (.int .i64 (ρ.i 3))
  rw [h.i3]
set_option maxRecDepth 100000 in
set_option maxHeartbeats 4000000 in
theorem ref_TcpRead_any (s : ByteArray) (src dst e er : Int) (r : Option Int) (w : World) (hi : RdIn s src dst) (hr : rdTo s ≤ (s.size : Int) → 20 ≤ rdTo s → optF s (rdTo s - 20).toNat 20 (rdTo s - 20) 0 = r) (he : ∀ m, r = some m → rdChk s m = e) (her : rdEr s src dst r e = er) :
    Calls Try.prog 108 #[.int .u32 src, .int .u32 dst, .string s] w (RetP (RdR s src dst r er w)) := by
  have b12 := byteOf_bd s 12
  have hgood0 : (mkEnv [src, dst, 0, e] [] [s] []).good := fun i => rfl
  have hM0 : Md (mkEnv [src, dst, 0, e] [] [s] []) (fun _ => False) w (fun _ => 0) 0 ⟨[], [], rdCx, 0⟩ (fun _ => 0) ⟨#[], []⟩ w := Md.start (rdCx_ok hi rfl rfl rfl)
  have sp0 : ∀ ρ : Env, ρ.f = stdF → ∀ q ∈ [numSp, sumSp], q.Ok Try.prog ρ := fun ρ hf q hq => by
    rcases List.mem_cons.1 hq with rfl | hq
    · exact numSp_ok hf
    · rcases List.mem_cons.1 hq with rfl | hq
      · exact sumSp_ok hf
      · cases hq
  have bad : ∀ {ρ : Env} {s' : Sy.St} {n : Int} {β : Bn} {a : Act} {w' : World}, Md ρ (fun _ => False) w (fun _ => 0) 0 s' β a w' → retS Try.prog s' Try.f108.results.toList = some (.tup [.agg zeroC, .c (.int .i64 (.il n))]) → er = n → er ≠ 0 →
      bodyPost Try.prog Try.f108 (RetP (RdR s src dst r er w)) .ret a w' := by
    intro ρ s' n β a w' hM hret hn h0
    refine ret_post (B := ⟨ρ, fun _ => False, w, fun _ => 0, 0⟩) hM hret ⟨?_, Sy.Only.below_all hM.only⟩
    rw [rdVal_bad h0, hn]
    rfl
  have r0 : ∀ (j k : Nat) (n : Int), ([0, 1, 2, 3, 4, 6, 7] : List Nat)[j]? = some k → ([3, 4, 3, 5, 4, 4, 4] : List Int)[j]? = some n → retS Try.prog (lfAt (rr0 Try.prog Try.f108) k) Try.f108.results.toList = some (.tup [.agg zeroC, .c (.int .i64 (.il n))]) := by
    intro j k n h1 h2
    have := congrArg (fun l => l[j]?) rr_ret0
    simp only [List.getElem?_map, h1, h2, Option.map_some] at this
    injection this
  have r1 : ∀ (j k : Nat), ([2, 4, 10, 11] : List Nat)[j]? = some k → retS Try.prog (lfAt (rr1 Try.prog Try.f108) k) Try.f108.results.toList = some (.tup [.agg zeroC, .c (.int .i64 (.il 4))]) := by
    intro j k h1
    have := congrArg (fun l => l[j]?) rr_ret1
    have h2 : ([4, 4, 4, 4] : List Int)[j]? = some 4 := by
      rcases j with _ | _ | _ | _ | j
      · rfl
      · rfl
      · rfl
      · rfl
      · simp at h1
    simp only [List.getElem?_map, h1, h2, Option.map_some] at this
    injection this
  have hn : (den (mkEnv [src, dst, 0, e] [] [s] []) (.ap 0 (.cut (.sv 0) (.il 16) (.il 18)) (.il 0) (.il 0))).i = numA s 16 18 := rfl
  have hz : (den (mkEnv [src, dst, 0, e] [] [s] []) (.ap 0 (.cut (.sv 0) (.il 18) (.il 20)) (.il 0) (.il 0))).i = numA s 18 20 := rfl
  have hf : (den (mkEnv [src, dst, 0, e] [] [s] []) (.ap 1 sumT (.il 0) (.il 0))).i = rdSum src dst s := rfl
  have hs0 : (mkEnv [src, dst, 0, e] [] [s] []).s 0 = s := rfl
  refine calls_pre (B := ⟨mkEnv [src, dst, 0, e] [] [s] [], fun _ => False, w, fun _ => 0, 0⟩) (sp := [numSp, sumSp]) (p := rrP) (xs := rdArgs) (s := ⟨[], [], rdCx, 0⟩) (r := rr0 Try.prog Try.f108) hgood0 (sp0 _ rfl) rfl Try.func108 rfl rfl rr_run0 hM0 ?_ rfl
  refine ⟨?_, ?_, ?_, ?_, ?_, ?_, ?_, ?_, trivial⟩
  all_goals
    intro hpc
    replace hpc : pcs (mkEnv [src, dst, 0, e] [] [s] []) _ := hpc
    change pcs _ _ at hpc
    simp only [pcs, t_lt, t_le, t_eq, t_not, i_iv, i_il, i_add, i_sub, i_mul, i_dv, i_md, i_len, i_byte, s_sv, hs0, hn, hz, hf, and_true] at hpc
    intro β a w1 hM1
    have hEr := her
    unfold rdEr rdErr at hEr
    have hto : rdTo s = Sy.byteOf s 12 / 16 * 4 := rfl
    have zn := numA_bd s 18 20 2 (by omega)
  · refine bad hM1 (r0 0 _ _ rfl rfl) ?_ ?_ <;> ((repeat' split at hEr) <;> omega)
  · refine bad hM1 (r0 1 _ _ rfl rfl) ?_ ?_ <;> ((repeat' split at hEr) <;> omega)
  · refine bad hM1 (r0 2 _ _ rfl rfl) ?_ ?_ <;> ((repeat' split at hEr) <;> omega)
  · refine bad hM1 (r0 3 _ _ rfl rfl) ?_ ?_ <;> ((repeat' split at hEr) <;> omega)
  · refine bad hM1 (r0 4 _ _ rfl rfl) ?_ ?_ <;> ((repeat' split at hEr) <;> omega)
  · have hE : er = if rdOe r ≠ 0 then 4 else e := by
      rw [if_neg (by omega), if_neg (by omega), if_neg (by omega), if_neg (by omega), if_neg (by omega)] at hEr
      exact hEr.symm
    clear hEr
    have hle : rdTo s ≤ (s.size : Int) := by omega
    have h20 : 20 ≤ rdTo s := by omega
    have hr' := hr hle h20
    show (Sy.sub rrP (bodyOf Try.f108)).wp _ _ a w1
    rw [← rr_loop]
    have hI1 : ∀ u, RrI s src dst e r { (mkEnv [src, dst, 0, e] [] [s] []).sub β [.i 5 (.il 20), .i 2 (.il 0)] with u := u } := fun u =>
      ⟨fun i => rfl, rfl, rfl, rfl, rfl, rfl, hle, Int.le_refl 20, h20, Int.le_refl 0, (by show (0 : Int) ≤ 65535; omega), _, Nat.le_refl _, hr'⟩
    obtain ⟨u, hM2⟩ := Sy.Md.enter hM1 rr_match fun u => (hI1 u).cx hi
    clear hpc
    refine loop_wp (w0 := w) (r := rr1 Try.prog Try.f108) rfl rr_run1 (RrI s src dst e r) (fun ρ => (rdTo s - ρ.i 5).toNat) (fun ρ hI => hI.g) (fun ρ hI => sp0 ρ hI.f) (fun ρ hI => hI.cx hi) ?_ (hI1 u) hM2
    intro ρ hI
    have hI' := hI
    obtain ⟨k0, k1, k2, k3, k4, k5, k6, k7, k8, k9, k10, n, k11, k12⟩ := hI'
    have b0 := byteOf_bd s (ρ.i 5)
    have b1 := byteOf_bd s (ρ.i 5 + 1)
    have bn := num2_bd s (ρ.i 5)
    have hq : (den ρ (.wrap .i64 (.ap 0 (.cut (.sv 0) (.add (.iv 5) (.il 2)) (.add (.iv 5) (.il 4))) (.il 0) (.il 0)))).i = num2 s (ρ.i 5) := by
      show IntKind.i64.wrap (ρ.f 0 (den ρ (.cut (.sv 0) (.add (.iv 5) (.il 2)) (.add (.iv 5) (.il 4)))) (dI 0) (dI 0)).i = _
      have e1 : (ρ.f 0 (den ρ (.cut (.sv 0) (.add (.iv 5) (.il 2)) (.add (.iv 5) (.il 4)))) (dI 0) (dI 0)).i = num2 s (ρ.i 5) := by
        rw [k1]
        show ((numL ((ρ.s 0).extract (ρ.i 5 + 2).toNat (ρ.i 5 + 4).toNat).data.toList : Nat) : Int) = _
        rw [k2]
        rfl
      rw [e1]
      exact IntWalk.i64_in _ (by omega)
    have fin : ∀ (k : Nat), (k = 1 ∨ k = 13) → (rdTo s - ρ.i 5 ≤ 0 ∨ Sy.byteOf s (ρ.i 5) = 0) → ∀ β a w', Md ρ (fun _ => False) w (fun _ => 0) 0 (lfAt (rr1 Try.prog Try.f108) k) β a w' → ctx Try.prog rrP (bodyOf Try.f108) (bodyPost Try.prog Try.f108 (RetP (RdR s src dst r er w))) (Ex.exit 0).to a w' := by
      rintro k hk hend β a w' hM
      have hre : r = some (ρ.i 2) := by rw [← k12, optF_end k11 hend]
      have hec := he _ hre
      have hE' : er = e := by rw [hE, hre]; rfl
      have sp2 : ∀ q ∈ [numSp, sumSp, rrChk], q.Ok Try.prog ρ := fun q hq => by
        rcases List.mem_cons.1 hq with rfl | hq
        · exact numSp_ok k1
        · rcases List.mem_cons.1 hq with rfl | hq
          · exact sumSp_ok k1
          · rcases List.mem_cons.1 hq with rfl | hq
            · exact rr_chk_ok hi hI hec
            · cases hq
      have l1 : ∀ pc, (pcs ρ pc → e ≠ 0) → Sm.done ⟨ρ, fun _ => False, w, fun _ => 0, 0⟩ (RdR s src dst r er w) (.ret (.tup [.agg zeroC, .c (.int .i64 (.iv 3))]) [] pc) := by
        intro pc hp hpc β w' hH
        refine ⟨?_, Sy.Only.below_all hH.only⟩
        rw [rdVal_bad (by rw [hE']; exact hp hpc)]
        show Value.tuple #[V1.den ρ β (.agg zeroC), .int .i64 (ρ.i 3)] = _
        rw [rrZ_den, k5, hE']
      have l2 : ∀ pc, (pcs ρ pc → e = 0) → Sm.done ⟨ρ, fun _ => False, w, fun _ => 0, 0⟩ (RdR s src dst r er w) (.ret (.tup [.agg rrC, .c (.int .i64 (.il 0))]) [] pc) := by
        intro pc hp hpc β w' hH
        refine ⟨?_, Sy.Only.below_all hH.only⟩
        have h0 : er = 0 := by rw [hE']; exact hp hpc
        show Value.tuple #[V1.den ρ β (.agg rrC), .int .i64 0] = _
        rw [rrC_den hI, h0, hre]
        rfl
      have c1 : ∀ pc, pcs ρ (.not (.eq (.iv 3) (.il 0)) :: pc) → e ≠ 0 := fun pc h => by
        have := h.1
        rw [t_not, t_eq, i_iv, i_il, k5] at this
        exact this
      have c2 : ∀ pc, pcs ρ (.eq (.iv 3) (.il 0) :: pc) → e = 0 := fun pc h => by
        have := h.1
        rw [t_eq, i_iv, i_il, k5] at this
        exact this
      rcases hk with rfl | rfl
      · exact aft_fin (B := ⟨ρ, fun _ => False, w, fun _ => 0, 0⟩) k0 sp2 rfl (.exit 0) rr_aft1 ⟨l1 _ (c1 _), l2 _ (c2 _), trivial⟩ hM
      · exact aft_fin (B := ⟨ρ, fun _ => False, w, fun _ => 0, 0⟩) k0 sp2 rfl (.exit 0) rr_aft13 ⟨l1 _ (c1 _), l2 _ (c2 _), trivial⟩ hM
    have badl : ∀ (j k : Nat), ([2, 4, 10, 11] : List Nat)[j]? = some k → r = none → ∀ β a w', Md ρ (fun _ => False) w (fun _ => 0) 0 (lfAt (rr1 Try.prog Try.f108) k) β a w' → ctx Try.prog rrP (bodyOf Try.f108) (bodyPost Try.prog Try.f108 (RetP (RdR s src dst r er w))) Ex.ret.to a w' := by
      intro j k hk hn β a w' hM
      have h4 : er = 4 := by rw [hE, hn]; rfl
      exact ctx_ret _ _ _ (bad hM (r1 j k hk) h4 (by rw [h4]; decide))
    have out : 0 < rdTo s - ρ.i 5 → Sy.byteOf s (ρ.i 5) ≠ 0 → Sy.byteOf s (ρ.i 5) ≠ 1 → (rdTo s - ρ.i 5 < 2 ∨ Sy.byteOf s (ρ.i 5 + 1) < 2 ∨ rdTo s - ρ.i 5 < Sy.byteOf s (ρ.i 5 + 1) ∨ (Sy.byteOf s (ρ.i 5) = 2 ∧ Sy.byteOf s (ρ.i 5 + 1) ≠ 4)) → r = none := by
      intro g0 g1 g2 g3
      obtain ⟨n', rfl⟩ : ∃ n', n = n' + 1 := ⟨n - 1, by omega⟩
      rw [optF_bad g0 g1 g2 g3] at k12
      exact k12.symm
    have hn' : 0 < rdTo s - ρ.i 5 → ∃ n', n = n' + 1 := fun h => ⟨n - 1, by omega⟩
    refine ⟨?_, ?_, ?_, ?_, ?_, ?_, ?_, ?_, ?_, ?_, ?_, ?_, ?_, ?_, trivial⟩
    all_goals
      intro hpc
      replace hpc : pcs ρ _ := hpc
      simp only [pcs, t_lt, t_le, t_eq, t_not, i_iv, i_il, i_add, i_sub, i_mul, i_dv, i_md, i_len, i_byte, s_sv, k2, and_true] at hpc
    · simp only [t_lt, t_le, i_iv, i_il, i_add, i_sub, i_len, s_sv, k2]
      omega
    · exact fin 1 (.inl rfl) (.inr hpc.1)
    · exact badl 0 _ rfl (out (by omega) (by omega) (by omega) (by omega))
    · simp only [t_lt, t_le, i_iv, i_il, i_add, i_sub, i_len, s_sv, k2]
      omega
    · exact badl 1 _ rfl (out (by omega) (by omega) (by omega) (by omega))
    · simp only [t_lt, t_le, i_iv, i_il, i_add, i_sub, i_len, s_sv, k2]
      omega
    · simp only [t_lt, t_le, i_iv, i_il, i_add, i_sub, i_len, s_sv, k2]
      omega
    · simp only [t_lt, t_le, i_iv, i_il, i_add, i_sub, i_len, s_sv, k2]
      omega
    · intro β u
      obtain ⟨n', rfl⟩ := hn' (by omega)
      rw [optF_two (by omega) (by omega) (by omega) (by omega)] at k12
      refine ⟨⟨k0, k1, k2, k3, k4, k5, k6, ?_, ?_, ?_, ?_, n', ?_, ?_⟩, ?_⟩
      · show 20 ≤ ρ.i 5 + Sy.byteOf (ρ.s 0) (ρ.i 5 + 1)
        rw [k2]
        omega
      · show ρ.i 5 + Sy.byteOf (ρ.s 0) (ρ.i 5 + 1) ≤ _
        rw [k2]
        omega
      · show 0 ≤ (den ρ (.wrap .i64 (.ap 0 (.cut (.sv 0) (.add (.iv 5) (.il 2)) (.add (.iv 5) (.il 4))) (.il 0) (.il 0)))).i
        rw [hq]
        omega
      · show (den ρ (.wrap .i64 (.ap 0 (.cut (.sv 0) (.add (.iv 5) (.il 2)) (.add (.iv 5) (.il 4))) (.il 0) (.il 0)))).i ≤ _
        rw [hq]
        omega
      · show (rdTo s - (ρ.i 5 + Sy.byteOf (ρ.s 0) (ρ.i 5 + 1))).toNat ≤ _
        rw [k2]
        exact drop_le k11 (by omega) (by omega)
      · show optF s n' (ρ.i 5 + Sy.byteOf (ρ.s 0) (ρ.i 5 + 1)) (rdTo s - (ρ.i 5 + Sy.byteOf (ρ.s 0) (ρ.i 5 + 1))) (den ρ (.wrap .i64 (.ap 0 (.cut (.sv 0) (.add (.iv 5) (.il 2)) (.add (.iv 5) (.il 4))) (.il 0) (.il 0)))).i = r
        rw [hq, k2, show rdTo s - (ρ.i 5 + Sy.byteOf s (ρ.i 5 + 1)) = rdTo s - ρ.i 5 - Sy.byteOf s (ρ.i 5 + 1) from by omega]
        exact k12
      · show (rdTo s - (ρ.i 5 + Sy.byteOf (ρ.s 0) (ρ.i 5 + 1))).toNat < (rdTo s - ρ.i 5).toNat
        rw [k2]
        exact drop_lt (by omega) (by omega)
    · intro β u
      obtain ⟨n', rfl⟩ := hn' (by omega)
      rw [optF_any (by omega) (by omega) (by omega) (by omega) (by omega) (by omega)] at k12
      refine ⟨⟨k0, k1, k2, k3, k4, k5, k6, ?_, ?_, k9, k10, n', ?_, ?_⟩, ?_⟩
      · show 20 ≤ ρ.i 5 + Sy.byteOf (ρ.s 0) (ρ.i 5 + 1)
        rw [k2]
        omega
      · show ρ.i 5 + Sy.byteOf (ρ.s 0) (ρ.i 5 + 1) ≤ _
        rw [k2]
        omega
      · show (rdTo s - (ρ.i 5 + Sy.byteOf (ρ.s 0) (ρ.i 5 + 1))).toNat ≤ _
        rw [k2]
        exact drop_le k11 (by omega) (by omega)
      · show optF s n' (ρ.i 5 + Sy.byteOf (ρ.s 0) (ρ.i 5 + 1)) (rdTo s - (ρ.i 5 + Sy.byteOf (ρ.s 0) (ρ.i 5 + 1))) (ρ.i 2) = r
        rw [k2, show rdTo s - (ρ.i 5 + Sy.byteOf s (ρ.i 5 + 1)) = rdTo s - ρ.i 5 - Sy.byteOf s (ρ.i 5 + 1) from by omega]
        exact k12
      · show (rdTo s - (ρ.i 5 + Sy.byteOf (ρ.s 0) (ρ.i 5 + 1))).toNat < (rdTo s - ρ.i 5).toNat
        rw [k2]
        exact drop_lt (by omega) (by omega)
    · exact badl 2 _ rfl (out (by omega) (by omega) (by omega) (by omega))
    · exact badl 3 _ rfl (out (by omega) (by omega) (by omega) (by omega))
    · intro β u
      obtain ⟨n', rfl⟩ := hn' (by omega)
      rw [optF_one (by omega) (by omega)] at k12
      refine ⟨⟨k0, k1, k2, k3, k4, k5, k6, ?_, ?_, k9, k10, n', ?_, ?_⟩, ?_⟩
      · show 20 ≤ ρ.i 5 + 1
        omega
      · show ρ.i 5 + 1 ≤ _
        omega
      · show (rdTo s - (ρ.i 5 + 1)).toNat ≤ _
        exact drop_le k11 (by omega) (by omega)
      · show optF s n' (ρ.i 5 + 1) (rdTo s - (ρ.i 5 + 1)) (ρ.i 2) = r
        rw [show rdTo s - (ρ.i 5 + 1) = rdTo s - ρ.i 5 - 1 from by omega]
        exact k12
      · show (rdTo s - (ρ.i 5 + 1)).toNat < (rdTo s - ρ.i 5).toNat
        exact drop_lt (by omega) (by omega)
    · exact fin 13 (.inr rfl) (.inl (by omega))
  · refine bad hM1 (r0 5 _ _ rfl rfl) ?_ ?_ <;> ((repeat' split at hEr) <;> omega)
  · refine bad hM1 (r0 6 _ _ rfl rfl) ?_ ?_ <;> ((repeat' split at hEr) <;> omega)
#print axioms ref_TcpRead_any
end Go.Proofs.Ythjigajielhkfaa
