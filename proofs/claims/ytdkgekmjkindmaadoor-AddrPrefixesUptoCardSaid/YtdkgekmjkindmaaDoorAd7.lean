/- The document's count of digits. -/
import Derived.Test.YtdkgekmjkindmaaDoorAd6
namespace Go.Proofs.YtdkgekmjkindmaaDoor
open Go.RowKit Go.Shelf Go.Lib
set_option linter.unusedVariables false
attribute [local go_sem] Oper.semAt_some
theorem w64_in (n : Int) (h : -9223372036854775808 ≤ n ∧ n ≤ 9223372036854775807) : wrap64 n = n := by unfold wrap64; omega
def cntL (n : Nat) : List UInt8 → Option Nat
  | [] => some n
  | b :: l => if 48 ≤ b.toNat ∧ b.toNat ≤ 57 then cntL (10 * n + (b.toNat - 48)) l else none
theorem cntL_append (n : Nat) (l r : List UInt8) : cntL n (l ++ r) = (cntL n l).bind fun m => cntL m r := by
  induction l generalizing n with
  | nil => rfl
  | cons x l ih =>
    simp only [List.cons_append, cntL]
    split
    · exact ih _
    · rfl
def cntN (s : ByteArray) (most : Int) : Int :=
  if s.size = 0 ∨ 18 < s.size ∨ 1 < s.size ∧ s.data.toList.head? = some 48 then -1 else match cntL 0 s.data.toList with
  | none => -1
  | some n => if most < n then -1 else n
set_option maxRecDepth 100000 in
set_option maxHeartbeats 4000000 in
theorem count_in (s : ByteArray) (most : Int) (w : World) : CallsIn Fence.wide 3 Tryd.prog 20 #[.string s, .int .i64 most] w fun e w' => e = .returned (.int .i64 (cntN s most)) ∧ w' = w := by
  refine callsIn_of_wp Tryd.func20 rfl trivial ?_ rfl
  simp only [Tryd.ntmps20, List.size_toArray, List.length_cons, List.length_nil, Nat.reduceAdd, Nat.reduceSub, Array.replicate_succ, Array.replicate_zero, List.push_toArray, List.append_toArray, List.nil_append, List.cons_append]
  by_cases h1 : s.size = 0
  · have e1 : (s.toList == []) = true := by rw [Sy.empty_iff]; exact decide_eq_true (by omega)
    gi_wp2
    refine bodyPost_ret (results_tmp rfl _ _ _) rfl ⟨?_, rfl⟩
    unfold cntN
    rw [if_pos (.inl h1)]
    rfl
  · have e1 : (s.toList == []) = false := by rw [Sy.empty_iff]; exact decide_eq_false (by omega)
    by_cases h2 : 18 < s.size
    · have e2 : decide ((18 : Int) < (s.size : Int)) = true := decide_eq_true (by omega)
      gi_wp2
      refine bodyPost_ret (results_tmp rfl _ _ _) rfl ⟨?_, rfl⟩
      unfold cntN
      rw [if_pos (.inr (.inl h2))]
      rfl
    · have e2 : decide ((18 : Int) < (s.size : Int)) = false := decide_eq_false (by omega)
      have h0 : 0 < s.size := by omega
      have hd : s.data.toList.head? = some s[0] := by
        rw [List.head?_eq_getElem?]
        exact (List.getElem?_eq_some_iff.2 ⟨by simpa using h0, rfl⟩)
      have hfit : ∀ (k : Nat) (hk : k < s.size), s.data.toList[k]? = some s[k] := fun k hk => List.getElem?_eq_some_iff.2 ⟨by simpa using hk, rfl⟩
      have e4 : decide ((0 : Int) < (s.size : Int)) = true := decide_eq_true (by omega)
      by_cases h4 : 1 < s.size ∧ s[0] = 48
      · have e3 : decide ((1 : Int) < (s.size : Int)) = true := decide_eq_true (by omega)
        have e5 : (s[0].toNat : Int) = 48 := by rw [h4.2]; rfl
        gi_wp2
        refine bodyPost_ret (results_tmp rfl _ _ _) rfl ⟨?_, rfl⟩
        unfold cntN
        rw [if_pos (.inr (.inr ⟨h4.1, by rw [hd, h4.2]⟩))]
        rfl
      have hc : cntN s most = match cntL 0 s.data.toList with | none => -1 | some n => if most < n then -1 else n := by
        unfold cntN
        rw [if_neg]
        rw [hd]
        rintro (q | q | ⟨q1, q2⟩)
        · exact h1 q
        · exact h2 q
        · exact h4 ⟨q1, by injection q2⟩
      have hsp : (decide ((1 : Int) < (s.size : Int)) = true ∧ ((s[0].toNat : Int) == 48) = false) ∨ decide ((1 : Int) < (s.size : Int)) = false := by
        by_cases h3 : 1 < s.size
        · refine .inl ⟨decide_eq_true (by omega), ?_⟩
          rw [beq_eq_false_iff_ne]
          intro q
          exact h4 ⟨h3, UInt8.toNat_inj.1 (by show s[0].toNat = 48; omega)⟩
        · exact .inr (decide_eq_false (by omega))
      clear h4 hd h1
      rcases hsp with ⟨e3, e5⟩ | e3
      all_goals gi_wp2
      all_goals clear e3 e4 e2 e1
      all_goals
        gi_loopw [5, 26] (fun n i wr => ∃ k v : Nat, k ≤ s.size ∧ i = .int .i64 k ∧ cntL 0 (s.data.toList.take k) = some v ∧ v < 10 ^ k ∧ n = .int .i64 v ∧ wr = w) (fun n i _ => s.size - (Go.RowKit.intOf i).toNat)
        case atStart => exact ⟨0, 0, Nat.zero_le _, rfl, rfl, by decide, rfl, rfl⟩
        case round =>
          obtain ⟨k, v, hk, rfl, hv, hv10, rfl, rfl⟩ := hrel
          by_cases hks : k < s.size
          · have ek : decide ((k : Int) < (s.size : Int)) = true := decide_eq_true (by omega)
            have hb := hfit k hks
            by_cases hg : 48 ≤ s[k].toNat ∧ s[k].toNat ≤ 57
            · have g1 : decide ((s[k].toNat : Int) < 48) = false := decide_eq_false (by omega)
              have g2 : decide ((57 : Int) < (s[k].toNat : Int)) = false := decide_eq_false (by omega)
              gi_wp2
              go_roundw
              case rel =>
                have h17 : 10 ^ k ≤ 10 ^ 17 := Nat.pow_le_pow_right (by decide) (by omega)
                refine ⟨k + 1, 10 * v + (s[k].toNat - 48), by omega, rfl, ?_, ?_, ?_, trivial⟩
                · rw [List.take_add_one, hb, cntL_append, hv]
                  show cntL v [s[k]] = _
                  rw [cntL, if_pos hg]
                  rfl
                · rw [Nat.pow_succ]; omega
                · rw [w64_in (10 * (v : Int)) (by omega), w64_in _ (by omega)]
                  congr 1
                  omega
              case measure =>
                show s.size - ((k : Int) + 1).toNat < s.size - ((k : Int)).toNat
                omega
            · have hno : cntL 0 s.data.toList = none := by
                rw [← List.take_append_drop k s.data.toList, cntL_append, hv]
                have := List.getElem?_eq_some_iff.1 hb
                rw [List.drop_eq_getElem_cons this.1]
                show cntL v (_ :: _) = none
                rw [this.2, cntL, if_neg hg]
              rw [hno] at hc
              by_cases hg1 : s[k].toNat < 48
              · have g1 : decide ((s[k].toNat : Int) < 48) = true := decide_eq_true (by omega)
                gi_wp2
                refine bodyPost_ret (results_tmp rfl _ _ _) rfl ⟨?_, rfl⟩
                first | rfl | (rw [hc]; rfl)
              · have g1 : decide ((s[k].toNat : Int) < 48) = false := decide_eq_false (by omega)
                have g2 : decide ((57 : Int) < (s[k].toNat : Int)) = true := decide_eq_true (by omega)
                gi_wp2
                refine bodyPost_ret (results_tmp rfl _ _ _) rfl ⟨?_, rfl⟩
                first | rfl | (rw [hc]; rfl)
          · have ek : decide ((k : Int) < (s.size : Int)) = false := decide_eq_false (by omega)
            have hall : cntL 0 s.data.toList = some v := by
              rw [← hv, List.take_of_length_le (by rw [← Lib.size_eq]; omega)]
            rw [hall] at hc
            by_cases hm : most < v
            · have em : decide (most < (v : Int)) = true := decide_eq_true hm
              replace hc : cntN s most = -1 := hc.trans (if_pos hm)
              gi_wp2
              refine bodyPost_ret (results_tmp rfl _ _ _) rfl ⟨?_, rfl⟩
              first | rfl | (rw [hc]; rfl)
            · have em : decide (most < (v : Int)) = false := decide_eq_false hm
              replace hc : cntN s most = v := hc.trans (if_neg hm)
              gi_wp2
              refine bodyPost_ret (results_tmp rfl _ _ _) rfl ⟨?_, rfl⟩
              first | rfl | (rw [hc]; rfl)
end Go.Proofs.YtdkgekmjkindmaaDoor
