/- Package hash: Little64, Sip. -/
import Derived.Test.YtmbjinfeinhalaaHashWalks
import Derived.Test.YtmbjinfeinhalaaSumWalks
namespace Go.Proofs.Ytmbjinfeinhalaa
open Go.RowKit
set_option linter.unusedVariables false

theorem le_join (n b k : Nat) (hn : n < 256 ^ k) (hb : b ≤ 255) (hk : k ≤ 7) :
    bits BinOp.or IntKind.u64 (n : Int) (IntKind.u64.wrap ((b : Int) * 2 ^ (8 * k))) = ((n + b * 256 ^ k : Nat) : Int) := by
  have h0 : k = 0 ∨ k = 1 ∨ k = 2 ∨ k = 3 ∨ k = 4 ∨ k = 5 ∨ k = 6 ∨ k = 7 := by omega
  have key : ∀ m : Nat, m ≤ 56 → n < 2 ^ m → b * 2 ^ m ≤ 18446744073709551615 → n ≤ 18446744073709551615 → bits BinOp.or IntKind.u64 (n : Int) (IntKind.u64.wrap ((b : Int) * 2 ^ m)) = ((n + b * 2 ^ m : Nat) : Int) := by
    intro m hm hn hb2 hn2
    have e2 : (b : Int) * 2 ^ m = ((b * 2 ^ m : Nat) : Int) := by push_cast; rfl
    have e3 : IntKind.u64.wrap (((b * 2 ^ m : Nat) : Int)) = ((b * 2 ^ m : Nat) : Int) := IntWalk.u64_in _ (by omega)
    rw [e2, e3, u64_or_nat n (b * 2 ^ m) (by omega) (by omega), Nat.or_comm, nat_join m (b * 2 ^ m) n (Nat.mul_mod_left _ _) hn, Nat.add_comm]
  have hp : (256 : Nat) ^ k = 2 ^ (8 * k) := by rw [Nat.pow_mul]
  rw [hp] at hn ⊢
  refine key (8 * k) (by omega) hn ?_ ?_
  · rcases h0 with rfl | rfl | rfl | rfl | rfl | rfl | rfl | rfl <;> omega
  · rcases h0 with rfl | rfl | rfl | rfl | rfl | rfl | rfl | rfl <;> omega

theorem le_join2 (n b k C : Nat) (hn : n < 256 ^ k) (hb : b ≤ 255) (hk : k ≤ 6) (hC : C ≤ 255) :
    bits BinOp.or IntKind.u64 ((n + C * 72057594037927936 : Nat) : Int) (IntKind.u64.wrap ((b : Int) * 2 ^ (8 * k))) = ((n + b * 256 ^ k + C * 72057594037927936 : Nat) : Int) := by
  have h0 : k = 0 ∨ k = 1 ∨ k = 2 ∨ k = 3 ∨ k = 4 ∨ k = 5 ∨ k = 6 := by omega
  have key : ∀ m : Nat, m ≤ 48 → n < 2 ^ m → n < 72057594037927936 → n + b * 2 ^ m < 72057594037927936 → bits BinOp.or IntKind.u64 ((n + C * 72057594037927936 : Nat) : Int) (IntKind.u64.wrap ((b : Int) * 2 ^ m)) = ((n + b * 2 ^ m + C * 72057594037927936 : Nat) : Int) := by
    intro m hm hn hn2 hb2
    have e2 : (b : Int) * 2 ^ m = ((b * 2 ^ m : Nat) : Int) := by push_cast; rfl
    have e3 : IntKind.u64.wrap (((b * 2 ^ m : Nat) : Int)) = ((b * 2 ^ m : Nat) : Int) := IntWalk.u64_in _ (by omega)
    have j1 : C * 72057594037927936 ||| n = C * 72057594037927936 + n := nat_join 56 (C * 72057594037927936) n (Nat.mul_mod_left _ _) hn2
    have j2 : b * 2 ^ m ||| n = b * 2 ^ m + n := nat_join m (b * 2 ^ m) n (Nat.mul_mod_left _ _) hn
    have j3 : C * 72057594037927936 ||| (n + b * 2 ^ m) = C * 72057594037927936 + (n + b * 2 ^ m) := nat_join 56 (C * 72057594037927936) _ (Nat.mul_mod_left _ _) hb2
    rw [e2, e3, u64_or_nat _ (b * 2 ^ m) (by omega) (by omega), Nat.add_comm n, ← j1, Nat.or_assoc, Nat.or_comm n, j2, Nat.add_comm (b * 2 ^ m), j3, Nat.add_comm]
  have hp : (256 : Nat) ^ k = 2 ^ (8 * k) := by rw [Nat.pow_mul]
  rw [hp] at hn ⊢
  refine key (8 * k) (by omega) hn ?_ ?_
  · rcases h0 with rfl | rfl | rfl | rfl | rfl | rfl | rfl <;> omega
  · rcases h0 with rfl | rfl | rfl | rfl | rfl | rfl | rfl <;> omega

theorem leN_take (l : List UInt8) (k : Nat) (h : k < l.length) : leN (l.take (k + 1)) = leN (l.take k) + l[k].toNat * 256 ^ k := by
  rw [take_last l k h, leN_snoc, List.length_take, Nat.min_eq_left (by omega)]
theorem leN_take_lt (l : List UInt8) (k : Nat) : leN (l.take k) < 256 ^ k :=
  Nat.lt_of_lt_of_le (leN_lt _) (Nat.pow_le_pow_right (by omega) (by simp; omega))

theorem wire_Little64 (s : ByteArray) (w : World) (hs : 8 ≤ s.size) (hs' : s.size ≤ 140737488355328) :
    Calls Try.prog 144 #[.string s] w fun e w' => e = .returned (.int .u64 (leN (s.data.toList.take 8) : Int)) ∧ w = w' := by
  go_enter Try.func144, Try.ntmps144
  go_wp2
  go_loop [3, 5] (fun n i => ∃ k : Nat, k ≤ 8 ∧ n = .int .u64 (leN (s.data.toList.take k)) ∧ i = .int .i64 k) (fun _ i => 8 - (intOf i).toNat)
  case atStart => exact ⟨0, by omega, rfl, rfl⟩
  case round =>
    obtain ⟨k, hk, rfl, rfl⟩ := hrel
    by_cases hlt : k < 8
    · obtain ⟨b, hb⟩ : ∃ b : Nat, (s[k]'(by omega)).toNat = b := ⟨_, rfl⟩
      have h0 : ∀ W, (Instr.index 9 (.string s) (.int .i64 (k : Int))).run Try.prog W = .ok (.int .u8 (b : Int)) W := fun W => by rw [← hb]; exact run_str_at s k (by omega) W
      have hb1 : b ≤ 255 := by have := (s[k]'(by omega)).toNat_lt; omega
      have hn : leN (s.data.toList.take (k + 1)) = leN (s.data.toList.take k) + b * 256 ^ k := by
        have hl := Lib.size_eq s
        rw [leN_take _ k (by omega), getElem_data s k (by omega), hb]
      have HN := Lib.hid hn
      have HJ := Lib.hid (le_join (leN (s.data.toList.take k)) b k (leN_take_lt _ _) hb1 (by omega))
      clear hn
      go_wp2
      refine ⟨⟨k + 1, by omega, ?_, by go_num⟩, by simp only [intOf]; omega⟩
      rw [HJ.out, HN.out]
    · go_wp2
      go_ret
      obtain rfl : k = 8 := by omega
      exact ⟨rfl, rfl⟩

/-- j blocks of eight bytes, taken in. -/
def sipBody : Nat → List UInt8 → V4 → V4
  | 0, _, v => v
  | j + 1, l, v => sipBody j (l.drop 8) (absorb v (leN (l.take 8)))
def sipStart (k0 k1 : Int) : V4 := ⟨xorW k0 8317987319222330741, xorW k1 7237128888997146477, xorW k0 7816392313619706465, xorW k1 8387220255154660723⟩
/-- n rounds. -/
def rnds : Nat → V4 → V4
  | 0, v => v
  | n + 1, v => rnd (rnds n v)
def sipEnd (v : V4) : Int := let u := rnds 4 ⟨v.a, v.b, xorW v.c 255, v.d⟩; xorW (xorW (xorW u.a u.b) u.c) u.d
/-- THE HASH. -/
def sipF (k0 k1 : Int) (l : List UInt8) : Int :=
  sipEnd (absorb (sipBody (l.length / 8) l (sipStart k0 k1)) ((leN (l.drop (8 * (l.length / 8))) + (l.length % 256) * 72057594037927936 : Nat) : Int))

theorem top_wrap (n : Nat) (h : n ≤ 140737488355328) : IntKind.u64.wrap ((n : Int) * 72057594037927936) = ((n % 256 * 72057594037927936 : Nat) : Int) := by
  simp only [IntKind.wrap]
  rw [show (2 : Int) ^ IntKind.u64.bits = 18446744073709551616 from rfl]
  simp only [IntKind.signed]
  simp
  omega

set_option maxRecDepth 100000 in
set_option maxHeartbeats 2000000 in
theorem hash_Sip (k0 k1 : Int) (s : ByteArray) (w : World) (hs : s.size ≤ 140737488355328) :
    Calls Try.prog 115 #[.int .u64 k0, .int .u64 k1, .string s] w fun e w' => e = .returned (.int .u64 (sipF k0 k1 s.data.toList)) ∧ Below w.heap.size w w' := by
  have hl := Lib.size_eq s
  obtain ⟨J, hJ⟩ : ∃ J, J = s.data.toList.length / 8 := ⟨_, rfl⟩
  obtain ⟨g, hg⟩ : ∃ g, g = w.heap.size := ⟨_, rfl⟩
  obtain ⟨V, hV⟩ : ∃ V, V = sipBody J s.data.toList (sipStart k0 k1) := ⟨_, rfl⟩
  obtain ⟨R, hR⟩ : ∃ R, R = s.data.toList.drop (8 * J) := ⟨_, rfl⟩
  have hRl : R.length = s.size - 8 * J := by rw [hR, List.length_drop]; omega
  have hxor : ∀ x y : Int, bits BinOp.xor IntKind.u64 x y = xorW x y := fun _ _ => rfl
  have HT := Lib.hid (top_wrap s.size hs)
  have HV := Lib.hid hV
  have HR := Lib.hid hR
  have HJ := Lib.hid hJ
  have hJ' : s.size = 8 * J + s.size % 8 := by omega
  have HL := Lib.hid hl
  have HM := Lib.hid hJ'
  have HRl := Lib.hid hRl
  clear hV hR hJ hl hJ' hRl
  go_enter Try.func115, Try.ntmps115
  go_upto_region 2 with fail
  have hB : Blk (w.alloc (Obj.cells #[.int .u64 (xorW k0 8317987319222330741), .int .u64 (xorW k1 7237128888997146477), .int .u64 (xorW k0 7816392313619706465), .int .u64 (xorW k1 8387220255154660723)] 194)) w.heap.size 194 (v4C (sipStart k0 k1)) := Blk.new w _ _
  have ho : Below w.heap.size w (w.alloc (Obj.cells #[.int .u64 (xorW k0 8317987319222330741), .int .u64 (xorW k1 7237128888997146477), .int .u64 (xorW k0 7816392313619706465), .int .u64 (xorW k1 8387220255154660723)] 194)) := by go_grown
  generalize w.alloc (Obj.cells #[.int .u64 (xorW k0 8317987319222330741), .int .u64 (xorW k1 7237128888997146477), .int .u64 (xorW k0 7816392313619706465), .int .u64 (xorW k1 8387220255154660723)] 194) = w1 at hB ho ⊢
  generalize xorW k0 8317987319222330741 = a
  generalize xorW k1 7237128888997146477 = b
  generalize xorW k0 7816392313619706465 = c
  generalize xorW k1 8387220255154660723 = d
  rw [← hg] at hB ho ⊢
  have HB := Lib.hid hB
  have HO := Lib.hid ho
  have HG := Lib.hid hg
  clear hB ho hxor hg
  go_wp2
  generalize htop : IntKind.u64.wrap ((s.size : Int) * 72057594037927936) = top at ⊢
  have Htop := Lib.hid htop
  clear htop
  go_loopw [2] (fun t wr => ∃ (j : Nat) (u : ByteArray) (v : V4), t = .string u ∧ u.size ≤ s.size ∧ Hid (u.size = 8 * j + s.size % 8) ∧ Hid (sipBody j u.data.toList v = V) ∧ Hid (u.data.toList.drop (8 * j) = R) ∧ Hid (Blk wr g 194 (v4C v) ∧ Below g w wr)) (fun t _ => match t with | .string u => u.size | _ => 0)
  case atStart => exact ⟨J, s, sipStart k0 k1, rfl, Nat.le_refl _, HM.out, HV.out.symm, HR.out.symm, HB.out, HO.out⟩
  case round =>
    obtain ⟨j, u, v, rfl, hu, Hj, Hv, Hr, HW⟩ := hrel
    clear HB HO
    by_cases hlt : 8 ≤ u.size
    · have h2 : ∀ W, (Instr.slice 9 (.string u) (some (.int .i64 8)) none none).run Try.prog W = .ok (.string (u.extract 8 u.size)) W := fun W => run_str_from u 8 (by omega) W
      obtain ⟨v', hv'⟩ : ∃ v', v' = absorb v (leN (u.data.toList.take 8) : Int) := ⟨_, rfl⟩
      have HV' := Lib.hid hv'
      clear hv'
      go_wp2_with (first
        | (go_at_call 144; refine (wire_Little64 u _ hlt (by omega)).mono ?_; rintro e w2 ⟨rfl, rfl⟩)
        | (go_at_call 143; refine (hash_take g v _ _ HW.out.1).mono ?_; rintro e w2 ⟨rfl, hb2, ho2⟩; have Hb2 := Lib.hid hb2; have Ho2 := Lib.hid ho2; clear hb2 ho2))
      go_roundw
      case rel =>
        have hj1 : 1 ≤ j := by have := Hj.out; omega
        obtain ⟨i, rfl⟩ : ∃ i, j = i + 1 := ⟨j - 1, by omega⟩
        have hsz : (u.extract 8 u.size).size = u.size - 8 := by simp
        have hd : (u.extract 8 u.size).data.toList = u.data.toList.drop 8 := by rw [Lib.extract_data, List.take_of_length_le (by simp)]
        refine ⟨i, u.extract 8 u.size, v', rfl, by omega, ?_, ?_, ?_, HV'.out ▸ Hb2.out, ?_⟩
        · have := Hj.out
          show _ = _
          omega
        · rw [hd, HV'.out]
          exact Hv.out
        · rw [hd, List.drop_drop]
          have := Hr.out
          rw [← this]
          congr 1
          omega
        · exact Ho2.out.below HW.out.2 (Nat.le_of_lt HW.out.1.lt) (fun i hi => by subst hi; exact Nat.le_refl _)
      case measure => simp; omega
    · have hr8 : u.size ≤ 7 := by omega
      have hj0 : j = 0 := by have := Hj.out; omega
      subst hj0
      have HVv : Hid (v = V) := Hv.out
      have HRr : Hid (u.data.toList = R) := by have := Hr.out; show _ = _; simpa using this
      have hC : s.size % 256 ≤ 255 := by omega
      obtain ⟨C, hCe⟩ : ∃ C, C = s.size % 256 := ⟨_, rfl⟩
      rw [← hCe] at hC
      have Htop2 : Hid (top = ((C * 72057594037927936 : Nat) : Int)) := by rw [hCe]; exact Htop.out.symm.trans HT.out
      have HC := Lib.hid hCe
      clear hCe Hr Hv Hj
      go_wp2
      go_loopw [8, 35] (fun n i wx => ∃ k : Nat, k ≤ u.size ∧ n = .int .u64 ((leN (u.data.toList.take k) + C * 72057594037927936 : Nat) : Int) ∧ i = .int .i64 k ∧ Hid (Blk wx g 194 (v4C v) ∧ Below g w wx)) (fun _ i _ => u.size - (intOf i).toNat)
      case atStart => exact ⟨0, by omega, by rw [Htop2.out]; simp [leN], rfl, HW.out⟩
      case round =>
        obtain ⟨k, hk, rfl, rfl, HX⟩ := hrel
        by_cases hlt2 : k < u.size
        · obtain ⟨b', hb⟩ : ∃ b : Nat, (u[k]'(by omega)).toNat = b := ⟨_, rfl⟩
          have h0 : ∀ W, (Instr.index 9 (.string u) (.int .i64 (k : Int))).run Try.prog W = .ok (.int .u8 (b' : Int)) W := fun W => by rw [← hb]; exact run_str_at u k (by omega) W
          have hb1 : b' ≤ 255 := by have := (u[k]'(by omega)).toNat_lt; omega
          have hn : leN (u.data.toList.take (k + 1)) = leN (u.data.toList.take k) + b' * 256 ^ k := by
            have hl := Lib.size_eq u
            rw [leN_take _ k (by omega), getElem_data u k (by omega), hb]
          have HN := Lib.hid hn
          have HJ2 := Lib.hid (le_join2 (leN (u.data.toList.take k)) b' k C (leN_take_lt _ _) hb1 (by omega) hC)
          clear hn hb
          obtain ⟨N, hN⟩ : ∃ N : Nat, N = leN (u.data.toList.take k) + C * 72057594037927936 := ⟨_, rfl⟩
          rw [← hN]
          have HNN := Lib.hid hN
          clear hN
          go_wp2
          go_roundw
          case rel =>
            refine ⟨k + 1, by omega, ?_, by go_num, HX⟩
            rw [HNN.out, HJ2.out, HN.out]
          case measure => simp only [intOf]; omega
        · obtain rfl : k = u.size := by omega
          obtain ⟨m, hm⟩ : ∃ m : Int, m = ((leN (u.data.toList.take u.size) + C * 72057594037927936 : Nat) : Int) := ⟨_, rfl⟩
          rw [← hm]
          have HM2 := Lib.hid hm
          clear hm
          go_wp2_with fail
          refine (hash_take g v m _ HX.out.1).mono ?_
          rintro e w2 ⟨rfl, hb2, ho2⟩
          have hO2 := ho2.below HX.out.2 (Nat.le_of_lt HX.out.1.lt) (fun i hi => by subst hi; exact Nat.le_refl _)
          clear HX HW ho2
          obtain ⟨a2, b2, c2, d2, hv⟩ : ∃ a2 b2 c2 d2, absorb v m = ⟨a2, b2, c2, d2⟩ := ⟨_, _, _, _, rfl⟩
          rw [hv] at hb2
          have HV2 := Lib.hid hv
          clear hv
          have hxor : ∀ x y : Int, bits BinOp.xor IntKind.u64 x y = xorW x y := fun _ _ => rfl
          have k2 := hb2.at_ (i := 2) (v := .int .u64 c2) rfl
          have f2 := hb2.frozen 2
          have HB2 := Lib.hid hb2
          have HO2 := Lib.hid hO2
          clear hb2 hO2
          go_wp2_with fail
          refine wp_region_still_tail 7 (by kernel_rfl) (by kernel_rfl) ?_
          simp only [List.take_succ_cons, List.take_zero, List.drop_succ_cons, List.drop_zero]
          change wpStill _ _ w2.drew _ _ _
          repeat still_step
          refine wpStill_nil ?_
          go_wp2_with fail
          have hB : Blk ((w2.setCell ⟨g, 2, none⟩ (.int .u64 (xorW c2 255))).drew) g 194 (v4C ⟨a2, b2, xorW c2 255, d2⟩) := (HB2.out.set_ 2 _).drew
          have ho : Below g w ((w2.setCell ⟨g, 2, none⟩ (.int .u64 (xorW c2 255))).drew) :=
            ((Only.refl (fun k => k = g) w2).here.drew).below HO2.out (Nat.le_of_lt HB2.out.lt) (fun i hi => by subst hi; exact Nat.le_refl _)
          clear HB2 HO2 k2 f2
          generalize (w2.setCell ⟨g, 2, none⟩ (.int .u64 (xorW c2 255))).drew = w3 at hB ho ⊢
          have HW3 : Hid (Blk w3 g 194 (v4C ⟨a2, b2, xorW c2 255, d2⟩) ∧ Below g w w3) := ⟨hB, ho⟩
          clear hB ho
          go_loopw [58] (fun i wx => ∃ (k : Nat) (q : V4), k ≤ 4 ∧ i = .int .i64 k ∧ Hid (q = rnds k ⟨a2, b2, xorW c2 255, d2⟩) ∧ Hid (Blk wx g 194 (v4C q) ∧ Below g w wx)) (fun i _ => 4 - (intOf i).toNat)
          case atStart => exact ⟨0, _, by omega, rfl, rfl, HW3.out⟩
          case round =>
            obtain ⟨k, q, hk, rfl, HQ, HX⟩ := hrel
            clear HW3
            by_cases hlt3 : k < 4
            · go_wp2_with fail
              refine (hash_round g q _ HX.out.1).mono ?_
              rintro e w4 ⟨rfl, hb4, ho4⟩
              have hO4 := ho4.below HX.out.2 (Nat.le_of_lt HX.out.1.lt) (fun i hi => by subst hi; exact Nat.le_refl _)
              have H4 : Hid (Blk w4 g 194 (v4C (rnd q)) ∧ Below g w w4) := ⟨hb4, hO4⟩
              clear hb4 ho4 hO4 HX
              go_wp2_with fail
              go_roundw
              case rel => exact ⟨k + 1, rnd q, by omega, by go_num, by rw [HQ.out]; rfl, H4.out⟩
              case measure => simp only [intOf]; omega
            · obtain rfl : k = 4 := by omega
              obtain ⟨qa, qb, qc, qd⟩ := q
              obtain ⟨hB, hO⟩ := HX.out
              have k0 := hB.at_ (i := 0) (v := .int .u64 qa) rfl
              have k1 := hB.at_ (i := 1) (v := .int .u64 qb) rfl
              have k2 := hB.at_ (i := 2) (v := .int .u64 qc) rfl
              have k3 := hB.at_ (i := 3) (v := .int .u64 qd) rfl
              have HO := Lib.hid hO
              clear hB hO HX
              go_wp2_with fail
              go_quiet (fail)
              go_wp2
              go_ret
              refine ⟨ret_int ?_, by rw [← HG.out]; exact ⟨HO.out.os, HO.out.tape, HO.out.output, HO.out.size, HO.out.block⟩⟩
              have e := HQ.out
              have hCC := HC.out
              unfold sipF
              rw [← HJ.out, ← HR.out, ← HV.out, ← HVv.out, ← HL.out, ← hCC]
              have hm := HM2.out
              rw [HRr.out, List.take_of_length_le (by rw [HRl.out]; have := HM.out; have := Lib.size_eq u; rw [HRr.out, HRl.out] at this; omega)] at hm
              rw [← hm, HV2.out]
              simp only [sipEnd]
              rw [← e]
end Go.Proofs.Ytmbjinfeinhalaa
