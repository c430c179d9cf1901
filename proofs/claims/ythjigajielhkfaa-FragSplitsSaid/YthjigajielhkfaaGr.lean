/- Split of a packet, the reference's: what it comes to. -/
import Derived.Test.YthjigajielhkfaaFs
namespace Go.Proofs.Ythjigajielhkfaa
open Go.RowKit Sy
set_option linter.unusedVariables false
set_option linter.unusedSimpArgs false

section
variable {src dst proto ttl id : Int} {dont more : Bool} {off mtu e : Int} {body : ByteArray}
/-- The reference's rounds, after k of them. -/
structure GrI (src dst proto ttl id : Int) (dont more : Bool) (off mtu e : Int) (body : ByteArray) (ρ : Env) (k : Nat) : Prop where
  J : FsJ src dst proto ttl id dont more off mtu e body ρ
  i11 : ρ.i 11 = (k : Int)
  c0 : ρ.c 0 = fsTab (fsRow src dst proto ttl id dont (fsSt8 mtu) body) (fsSt8 mtu) k
  lt : fsSt8 mtu * (k - 1) < body.size
  i12 : 8 * ρ.i 12 = ((fsSt8 mtu * k : Nat) : Int)
theorem GrI.cx (h : FsIn src dst proto ttl id off mtu e body) {ρ : Env} {k : Nat} (I : GrI src dst proto ttl id dont more off mtu e body ρ k) (h1 : 28 ≤ mtu) (h2 : mtu ≤ 1420) (h4 : body.size ≤ 4000) : grCx1.ok ρ := by
  have hs := st8 h1 h2
  have hk := le_mul_st (k := k - 1) hs.1
  have hlt := I.lt
  have hm : fsSt8 mtu * k ≤ fsSt8 mtu * (k - 1) + fsSt8 mtu := by
    rw [← Nat.mul_succ]
    exact Nat.mul_le_mul_left _ (by omega)
  have J := I.J
  have i11 := I.i11
  have i12 := I.i12
  have s8 : (ρ.s 8).size = body.size := by rw [J.s8]
  have c0 : (ρ.c 0).length = k := by rw [I.c0, fsTab_len]
  have j9 := J.j9
  refine ⟨fun x hx => ?_, fun t ht => ?_⟩
  · change x ∈ _ :: _ :: _ :: _ :: _ :: fsBs at hx
    rcases List.mem_cons.1 hx with rfl | hx
    · show (0 : Int) ≤ ρ.i 11 ∧ ρ.i 11 ≤ 4000
      omega
    rcases List.mem_cons.1 hx with rfl | hx
    · show (0 : Int) ≤ ((ρ.c 0).length : Int) ∧ ((ρ.c 0).length : Int) ≤ 4000
      omega
    rcases List.mem_cons.1 hx with rfl | hx
    · show (0 : Int) ≤ ((ρ.s 8).size : Int) ∧ ((ρ.s 8).size : Int) ≤ 4000
      omega
    rcases List.mem_cons.1 hx with rfl | hx
    · show (0 : Int) ≤ ρ.i 12 ∧ ρ.i 12 ≤ 4000
      omega
    rcases List.mem_cons.1 hx with rfl | hx
    · show (28 : Int) ≤ ρ.i 9 ∧ ρ.i 9 ≤ 1420
      omega
    · exact h.bs J.j0 J.j1 J.j2 J.j3 J.j4 J.j7 J.j9 J.j10 x hx
  · change t ∈ [_, _] at ht
    simp only [List.mem_cons, List.not_mem_nil, or_false] at ht
    rcases ht with rfl | rfl
    · rw [t_le]
      show ρ.i 11 ≤ ((ρ.c 0).length : Int)
      omega
    · rw [t_le]
      show ((ρ.c 0).length : Int) ≤ ρ.i 11
      omega
set_option maxRecDepth 100000 in
set_option maxHeartbeats 2000000 in
theorem gsplit_calls (h : FsIn src dst proto ttl id off mtu e body) (he : e = ipChk proto ttl id off 0) (w : World) :
    Calls Try.prog 89 #[.agg (pktC src dst proto ttl id dont more off body).toArray, .int .i64 mtu] w (RetP (FsPost src dst proto ttl id dont more off mtu e body w)) := by
  have J0 : FsJ src dst proto ttl id dont more off mtu e body (fsEnv src dst proto ttl id dont more off mtu e body) := fsEnv_j
  have hargs : (#[.agg (pktC src dst proto ttl id dont more off body).toArray, .int .i64 mtu] : Array Value) = (fsA.map (SV.den (fsEnv src dst proto ttl id dont more off mtu e body) (fun _ => 0))).toArray := rfl
  have hM0 := fs_start (dont := dont) (more := more) h w
  have hsp := chkS_ok h he J0
  have hg := J0.g
  have F := J0
  generalize hρ : fsEnv src dst proto ttl id dont more off mtu e body = ρ0 at F hsp hM0 hargs hg
  refine calls_pre (B := ⟨ρ0, fun _ => False, w, fun _ => 0, 0⟩) (sp := fsSp) (p := grP) (xs := fsA) (s := fsSt) (r := gr0 Try.prog Try.f89) hg hsp rfl Try.func89 rfl rfl gr_run0 hM0 ?_ hargs
  have r0 := fun (k : Nat) (j : Nat) (x : FsV) (h1 : [0, 1, 2, 3, 5, 6, 7, 8, 9][j]? = some k) (h2 : [(FsV.one (.il 1)), (.one (.iv 10)), (.one (.il 2)), (.two 4), (.two 4), (.one (.il 2)), (.one (.il 1)), (.one (.il 1)), (.one (.il 1))][j]? = some x) => show retS Try.prog (lfAt (gr0 Try.prog Try.f89) k) Try.f89.results.toList = some x.v by
    have := congrArg (fun l => l[j]?) gr_rets
    simp only [List.getElem?_map, h1, h2, Option.map_some] at this
    exact Option.some.inj this
  have bad : ∀ (k j : Nat) (x : Tm) (n : Int), [0, 1, 2, 3, 5, 6, 7, 8, 9][j]? = some k → [(FsV.one (.il 1)), (.one (.iv 10)), (.one (.il 2)), (.two 4), (.two 4), (.one (.il 2)), (.one (.il 1)), (.one (.il 1)), (.one (.il 1))][j]? = some (.one x) → (den ρ0 x).i = n → fsE e mtu dont more off body.size = n → n ≠ 0 →
      ∀ β a w', Md ρ0 (fun _ => False) w (fun _ => 0) 0 (lfAt (gr0 Try.prog Try.f89) k) β a w' → bodyPost Try.prog Try.f89 (RetP (FsPost src dst proto ttl id dont more off mtu e body w)) .ret a w' := by
    intro k j x n h1 h2 h3 h4 h5 β a w' hM
    refine ret_post (B := ⟨ρ0, fun _ => False, w, fun _ => 0, 0⟩) hM (r0 k j _ h1 h2) ?_
    subst hρ
    exact fs_err J0 h3 h4 h5 (Sy.Only.below_all hM.only) β
  have j9 := F.j9
  have j10 := F.j10
  have j7 := F.j7
  have jb5 := F.b5
  have jb6 := F.b6
  have js8 := F.s8
  have e0 := h.e0
  refine ⟨?_, ?_, ?_, ?_, ?_, ?_, ?_, ?_, ?_, ?_, trivial⟩
  all_goals
    intro hpc
    replace hpc : pcs ρ0 _ := hpc
    simp only [pcs, t_lt, t_le, t_eq, t_not, t_bv, i_iv, i_il, i_add, i_len, s_sv, j7, j9, j10, jb5, jb6, js8, and_true] at hpc
  · exact bad 0 0 _ 1 rfl rfl rfl (by unfold fsE; rw [if_pos (by omega)]) (by decide)
  · have hne : e ≠ 0 := by omega
    exact bad 1 1 _ e rfl rfl j10 (by unfold fsE; rw [if_neg (noArg (by omega) (by omega) (by simp only [hpc, Bool.false_eq_true, not_false_eq_true]) (by omega)), if_pos hne]) hne
  · exact bad 2 2 _ 2 rfl rfl rfl (by unfold fsE; rw [if_neg (noArg (by omega) (by omega) (by simp only [hpc, Bool.false_eq_true, not_false_eq_true]) (by omega)), if_neg (by omega), if_neg (by omega), if_neg (by omega), if_pos (by simp only [hpc])]) (by decide)
  · exfalso
    omega
  · intro β a w1 hM1
    show (Sy.sub grP (bodyOf Try.f89)).wp Try.prog _ a w1
    rw [← gr_loop]
    have m1 : 28 ≤ mtu := by omega
    have m2 : mtu ≤ 1420 := by omega
    have h4 : body.size ≤ 4000 := by omega
    have hmore : more = false := by
      cases hq : more with
      | false => rfl
      | true => rw [hq] at hpc; simp at hpc
    have hdont : dont = false := by
      cases hq : dont with
      | false => rfl
      | true => rw [hq] at hpc; simp at hpc
    have hs := st8 m1 m2
    obtain ⟨fe, fr⟩ := fs_rows_eq (src := src) (dst := dst) (proto := proto) (ttl := ttl) (id := id) (e := e) (body := body) (off := off) m1 m2 hmore (by omega) (by omega) h4 (by omega) hdont
    obtain ⟨fr1, fr2⟩ := Prod.mk.inj gr_free
    obtain ⟨β1, hM2⟩ := Sy.Md.tabSlot hM1 8 40 24 pkLv (Nat.zero_le _) fr1 fr2
    have hI1 : ∀ u, GrI src dst proto ttl id dont more off mtu e body { ρ0.sub β1 [.i 11 (.il 0), .i 12 (.il 0), .c 0 tn] with u := u } 0 := fun u => by
      refine ⟨⟨F.g, F.j0, F.j1, F.j2, F.j3, F.j4, F.j7, F.j9, F.j10, F.b5, F.b6, F.s8⟩, rfl, rfl, by simp; omega, rfl⟩
    obtain ⟨u, β2, hM3⟩ := Sy.Md.enter hM2 gr_match fun u => by rw [gr_cx1]; exact (hI1 u).cx h m1 m2 h4
    refine loop_wp (w0 := w) (r := gr1 Try.prog Try.f89) rfl gr_run1 (fun ρ => ∃ k, GrI src dst proto ttl id dont more off mtu e body ρ k) (fun ρ => 4001 - (ρ.i 12).toNat) (fun ρ ⟨k, hI⟩ => hI.J.g) (fun ρ hI q hq => by cases hq) (fun ρ ⟨k, hI⟩ => by rw [gr_cx1]; exact hI.cx h m1 m2 h4) ?_ ⟨0, hI1 u⟩ hM3
    rintro ρ ⟨k, I⟩
    have J := I.J
    have hlt := I.lt
    have i12 := I.i12
    have hd8 := div8 (k := k) hs.2.2.1
    have s8 : (ρ.s 8).size = body.size := by rw [J.s8]
    have hm8 : 8 * ((mtu + -20) / 8) = (fsSt8 mtu : Int) := by omega
    have hst : (den ρ (.mul (.il 8) (.add (.iv 12) (.dv (.add (.iv 9) (.il (-20))) (.il 8))))).i = ((fsSt8 mtu * k + fsSt8 mtu : Nat) : Int) := by
      simp only [i_mul, i_dv, i_add, i_iv, i_il, J.j9]
      omega
    have hat : (den ρ (.mul (.il 8) (.iv 12))).i = ((fsSt8 mtu * k : Nat) : Int) := by
      simp only [i_mul, i_iv, i_il]
      omega
    have hl8 : (den ρ (.len (.sv 8))).i = (body.size : Int) := by
      rw [i_len, s_sv, s8]
    have hmin : (den ρ (.ite (.lt (.mul (.il 8) (.add (.iv 12) (.dv (.add (.iv 9) (.il (-20))) (.il 8)))) (.len (.sv 8))) (.mul (.il 8) (.add (.iv 12) (.dv (.add (.iv 9) (.il (-20))) (.il 8)))) (.len (.sv 8)))).i = ((min body.size (fsSt8 mtu * k + fsSt8 mtu) : Nat) : Int) := by
      rw [i_min, hst, hl8]
      omega
    refine ⟨?_, ?_, ?_, ?_, trivial⟩
    · intro hpc2
      have h0 := hpc2.1
      rw [t_lt, hat, hl8] at h0
      rw [t_le, hat, hmin]
      omega
    · intro hpc2
      rw [t_le, hmin, hl8]
      omega
    · intro hpc2 β u
      have h0 := hpc2.2.2.1
      rw [t_lt, hat, hl8] at h0
      refine ⟨⟨k + 1, ⟨⟨J.g, J.j0, J.j1, J.j2, J.j3, J.j4, J.j7, J.j9, J.j10, J.b5, J.b6, J.s8⟩, ?_, ?_, ?_, ?_⟩⟩, ?_⟩
      · show ((ρ.c 0).length : Int) + 1 = _
        rw [I.c0, fsTab_len]
        rfl
      · rw [fsTab_succ, ← I.c0]
        show ρ.c 0 ++ [[.int .u32 (ρ.i 0), .int .u32 (ρ.i 1), .int .i64 (ρ.i 2), .int .i64 (ρ.i 3), .int .i64 (ρ.i 4), .bool (ρ.b 5), .bool (den ρ (.lt (.mul (.il 8) (.add (.iv 12) (.dv (.add (.iv 9) (.il (-20))) (.il 8)))) (.len (.sv 8)))).b, .int .i64 (ρ.i 12),
          .string ((ρ.s 8).extract (den ρ (.mul (.il 8) (.iv 12))).i.toNat (den ρ (.ite (.lt (.mul (.il 8) (.add (.iv 12) (.dv (.add (.iv 9) (.il (-20))) (.il 8)))) (.len (.sv 8))) (.mul (.il 8) (.add (.iv 12) (.dv (.add (.iv 9) (.il (-20))) (.il 8)))) (.len (.sv 8)))).i.toNat)]] = _
        congr 2
        unfold fsRow
        rw [hmin, hat, Int.toNat_natCast, Int.toNat_natCast, J.j0, J.j1, J.j2, J.j3, J.j4, J.b5, J.s8]
        have h7 : (den ρ (.lt (.mul (.il 8) (.add (.iv 12) (.dv (.add (.iv 9) (.il (-20))) (.il 8)))) (.len (.sv 8)))).b = decide (fsSt8 mtu * k + fsSt8 mtu < body.size) := by
          rw [Bool.eq_iff_iff, t_lt, hst, hl8, decide_eq_true_eq]
          omega
        have h8 : ρ.i 12 = ((fsSt8 mtu * k / 8 : Nat) : Int) := by omega
        rw [h7, h8]
      · rw [Nat.add_sub_cancel]; omega
      · show 8 * (den ρ (.add (.iv 12) (.dv (.add (.iv 9) (.il (-20))) (.il 8)))).i = _
        simp only [i_dv, i_add, i_iv, i_il, J.j9]
        rw [Nat.mul_succ]
        omega
      · show 4001 - (den ρ (.add (.iv 12) (.dv (.add (.iv 9) (.il (-20))) (.il 8)))).i.toNat < 4001 - (ρ.i 12).toNat
        simp only [i_dv, i_add, i_iv, i_il, J.j9]
        omega
    · intro hpc2 β a w' hM
      refine aft_fin (B := ⟨ρ, fun _ => False, w, fun _ => 0, 0⟩) J.g (fun q hq => by cases hq) rfl (.exit 0) gr_fin ?_ hM
      refine ⟨?_, trivial⟩
      intro hpc3 β3 w3 hH
      have h0 := hpc2.1
      rw [t_not, t_lt, hat, hl8] at h0
      have hk : k = fsN (fsSt8 mtu) body.size := fsN_eq hlt (by omega)
      have hrow : (den ρ (.cv 0)).c = fsRows src dst proto ttl id dont more off mtu e body := by
        rw [fr, ← hk, ← I.c0]
        rfl
      have := newTab_hp hH (l := 40) (ty := 24) (lv := pkLv) (t := .cv 0) (L := .iv 11) (rest := []) (List.mem_cons_self ..) (by
        show ρ.i 11 = ((ρ.c 0).length : Int)
        rw [I.i11, I.c0, fsTab_len])
      rw [hrow] at this
      exact ⟨_, by rw [fe]; rfl, this⟩
  · intro β a w' hM
    refine ret_post (B := ⟨ρ0, fun _ => False, w, fun _ => 0, 0⟩) hM (r0 5 4 _ rfl rfl) ?_
    subst hρ
    exact fs_one h J0 (by unfold fsE; rw [if_neg (noArg (by omega) (by omega) (by simp only [hpc, Bool.false_eq_true, not_false_eq_true]) (by omega)), if_neg (by omega), if_neg (by omega), if_pos (by omega)]) (by omega) hM gr_hp5
  · exact bad 6 5 _ 2 rfl rfl rfl (by unfold fsE; rw [if_neg (noArg (by omega) (by omega) (by simp only [hpc, Bool.false_eq_true, not_false_eq_true]) (by omega)), if_neg (by omega), if_pos (by omega)]) (by decide)
  · exact bad 7 6 _ 1 rfl rfl rfl (by unfold fsE; rw [if_pos (by simp only [hpc, true_or, or_true])]) (by decide)
  · exact bad 8 7 _ 1 rfl rfl rfl (by unfold fsE; rw [if_pos (by omega)]) (by decide)
  · exact bad 9 8 _ 1 rfl rfl rfl (by unfold fsE; rw [if_pos (by omega)]) (by decide)
end
end Go.Proofs.Ythjigajielhkfaa
