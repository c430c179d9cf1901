/- Addresses: the plain law: what the program reads is what the document reads. -/
import Derived.Test.YtdkgekmjkindmaaDoorAd8
import Derived.Lib.CutLaws
namespace Go.Proofs.YtdkgekmjkindmaaDoor
open Go.RowKit Go.Lib
set_option linter.unusedVariables false
/-! Bytes in lists. -/
theorem ix_at {d : UInt8} : ∀ {l r : List UInt8}, d ∉ l → indexByte (l ++ d :: r) d = (l.length : Int)
  | [], r, _ => by simp [indexByte]
  | b :: l, r, h => by
    have h1 : b ≠ d := fun e => h (e ▸ List.mem_cons_self ..)
    have h2 := ix_at (l := l) (r := r) fun q => h (List.mem_cons_of_mem _ q)
    rw [List.cons_append, indexByte, h2, if_neg (by simpa using h1), if_neg (by simp), List.length_cons]
    omega
theorem ix_none {d : UInt8} : ∀ {l : List UInt8}, d ∉ l → indexByte l d = -1
  | [], _ => rfl
  | b :: l, h => by
    have h1 : b ≠ d := fun e => h (e ▸ List.mem_cons_self ..)
    rw [indexByte, ix_none (l := l) fun q => h (List.mem_cons_of_mem _ q), if_neg (by simpa using h1)]
    rfl
theorem ix_split {d : UInt8} : ∀ {l : List UInt8}, d ∈ l → ∃ a b, l = a ++ d :: b ∧ d ∉ a := fun {l} h => by
  induction l with
  | nil => cases h
  | cons x l ih =>
    by_cases e : x = d
    · exact ⟨[], l, by rw [e]; rfl, fun h => by cases h⟩
    · obtain ⟨a, b, e1, e2⟩ := ih ((List.mem_cons.1 h).resolve_left fun q => e q.symm)
      refine ⟨x :: a, b, by rw [e1]; rfl, fun q => ?_⟩
      rcases List.mem_cons.1 q with q | q
      · exact e q.symm
      · exact e2 q
/-! Strings split at a byte. -/
def hasB (d : UInt8) (s : ByteArray) : Prop := d ∈ s.data.toList
theorem indexB_sep (s : ByteArray) (d : UInt8) : indexB s (sepB d) = indexByte s.data.toList d := by
  rw [Lib.one s (sepB d) rfl]
  congr 1
  show (((d.toNat : Nat) : Int)).toNat.toUInt8 = d
  simp
theorem ba_ext {a b : ByteArray} (h : a.data.toList = b.data.toList) : a = b := ByteArray.ext (Array.ext' h)
theorem ba_app (a b : ByteArray) : (a ++ b).data.toList = a.data.toList ++ b.data.toList := by rw [ByteArray.data_append, Array.toList_append]
theorem ba_ext_l (a : ByteArray) (n m : Nat) : (a.extract n m).data.toList = (a.data.toList.take m).drop n := by
  rw [ByteArray.data_extract, Array.toList_extract, List.extract_eq_take_drop, List.drop_take]
theorem splitD_one {d : UInt8} {s : ByteArray} (h : ¬ hasB d s) : splitD d s = [s] := by
  unfold splitD
  exact splitB_miss _ _ _ _ (by rw [indexB_sep]; exact ix_none h)
theorem splitD_cons {d : UInt8} {x y : ByteArray} (h : ¬ hasB d x) : splitD d (x ++ (sepB d ++ y)) = x :: splitD d y := by
  have e : (x ++ (sepB d ++ y)).data.toList = x.data.toList ++ d :: y.data.toList := by
    rw [ba_app, ba_app]
    rfl
  have hi : indexB (x ++ (sepB d ++ y)) (sepB d) = (x.size : Int) := by
    rw [indexB_sep, e, ix_at h, Lib.size_eq]
  have hz : (x ++ (sepB d ++ y)).size = x.size + 1 + y.size := by
    rw [ByteArray.size_append, ByteArray.size_append]
    show x.size + (1 + y.size) = _
    omega
  have e1 : (x ++ (sepB d ++ y)).extract 0 x.size = x := ba_ext (by
    rw [ba_ext_l, e, Lib.size_eq x]
    simp)
  have e2 : (x ++ (sepB d ++ y)).extract (x.size + 1) (x ++ (sepB d ++ y)).size = y := ba_ext (by
    rw [ba_ext_l, e, Lib.size_eq (x ++ (sepB d ++ y)), e, List.take_of_length_le (Nat.le_refl _), show x.data.toList ++ d :: y.data.toList = (x.data.toList ++ [d]) ++ y.data.toList from by simp]
    exact List.drop_left' (by rw [List.length_append, ← Lib.size_eq x]; rfl))
  unfold splitD
  rw [countB_hit _ (sepB d) x.size (Nat.le_refl 1) hi, Nat.add_comm 1, splitB_hit _ _ _ _ _ hi]
  show (x ++ (sepB d ++ y)).extract 0 x.size :: _ = _
  rw [e1]
  show x :: splitB _ _ _ ((x ++ (sepB d ++ y)).extract (x.size + 1) (x ++ (sepB d ++ y)).size) = _
  rw [show (sepB d).size = 1 from rfl, e2]
theorem split_cases (d : UInt8) (s : ByteArray) : ¬ hasB d s ∨ ∃ x y, s = x ++ (sepB d ++ y) ∧ ¬ hasB d x := by
  by_cases h : hasB d s
  · obtain ⟨a, b, e, hn⟩ := ix_split h
    refine .inr ⟨⟨a.toArray⟩, ⟨b.toArray⟩, ba_ext ?_, hn⟩
    rw [e, ba_app, ba_app]
    rfl
  · exact .inl h
/-! Small numbers. -/
theorem small_all : ((List.range 256).all fun n => decide (cntN (digS (n : Int)) 255 = n) && (match parseUintB 8 (digS (n : Int)).data.toList with | .ok k => Nat.beq k n | _ => false) && ((digS (n : Int)).data.toList.all fun b => b != 46 && b != 47)) = true := by kernel_rfl
theorem small {n : Int} (h0 : 0 ≤ n) (h1 : n ≤ 255) : cntN (digS n) 255 = n ∧ parseUintB 8 (digS n).data.toList = .ok n.toNat ∧ ¬ hasB 46 (digS n) ∧ ¬ hasB 47 (digS n) := by
  have h := List.all_eq_true.1 small_all n.toNat (List.mem_range.2 (by omega))
  rw [Bool.and_eq_true, Bool.and_eq_true, Int.toNat_of_nonneg h0] at h
  obtain ⟨⟨p1, p2⟩, p3⟩ := h
  refine ⟨of_decide_eq_true p1, ?_, fun q => ?_, fun q => ?_⟩
  · split at p2
    · rename_i k e
      rw [e, Nat.eq_of_beq_eq_true p2]
    · cases p2
  · have := List.all_eq_true.1 p3 _ q
    simp at this
  · have := List.all_eq_true.1 p3 _ q
    simp at this
theorem cntL_ge : ∀ {l : List UInt8} {m n : Nat}, cntL m l = some n → m ≤ n
  | [], m, n, h => by injection h with h; omega
  | b :: l, m, n, h => by
    rw [cntL] at h
    split at h
    · have := cntL_ge h
      omega
    · cases h
theorem cnt_some {b : UInt8} {l : List UInt8} {m n : Nat} (h : cntL m (b :: l) = some n) : 48 ≤ b.toNat ∧ b.toNat ≤ 57 ∧ cntL (10 * m + (b.toNat - 48)) l = some n := by
  rw [cntL] at h
  split at h
  · rename_i q
    exact ⟨q.1, q.2, h⟩
  · cases h
theorem u8_of {b : UInt8} {n : Nat} (h : n = b.toNat) : UInt8.ofNat (n % 256) = b := by
  subst h
  have := b.toNat_lt
  apply UInt8.toNat_inj.1
  rw [UInt8.toNat_ofNat']
  omega
/-- What counts as a number is that number's digits. -/
theorem cnt_dig {x : ByteArray} {m : Int} (hm : m ≤ 255) (h : 0 ≤ cntN x m) : x = digS (cntN x m) ∧ cntN x m ≤ m := by
  revert h
  unfold cntN
  split
  · intro h; omega
  · rename_i hno
    split
    · intro h; omega
    · rename_i n hn
      split
      · intro h; omega
      · rename_i hle
        intro _
        refine ⟨?_, by omega⟩
        rw [digS_k (by omega) (by omega), Int.toNat_natCast]
        apply ba_ext
        show x.data.toList = digK n
        rw [Lib.size_eq] at hno
        generalize x.data.toList = l at hno hn
        match l, hno, hn with
        | [], hno, _ => exact absurd (.inl rfl) hno
        | [a], _, hn =>
          obtain ⟨a1, a2, hn⟩ := cnt_some hn
          injection hn with hn
          rw [digK, if_pos (by omega), u8_of (b := a) (by omega)]
        | [a, b], hno, hn =>
          have hz : a ≠ 48 := fun e => hno (.inr (.inr ⟨by simp, by rw [e]; rfl⟩))
          have hz' : a.toNat ≠ 48 := fun e => hz (UInt8.toNat_inj.1 e)
          obtain ⟨a1, a2, hn⟩ := cnt_some hn
          obtain ⟨b1, b2, hn⟩ := cnt_some hn
          injection hn with hn
          rw [digK, if_neg (by omega), if_pos (by omega), u8_of (b := a) (by omega), u8_of (b := b) (by omega)]
        | [a, b, c], hno, hn =>
          have hz : a ≠ 48 := fun e => hno (.inr (.inr ⟨by simp, by rw [e]; rfl⟩))
          have hz' : a.toNat ≠ 48 := fun e => hz (UInt8.toNat_inj.1 e)
          obtain ⟨a1, a2, hn⟩ := cnt_some hn
          obtain ⟨b1, b2, hn⟩ := cnt_some hn
          obtain ⟨c1, c2, hn⟩ := cnt_some hn
          injection hn with hn
          rw [digK, if_neg (by omega), if_neg (by omega), u8_of (b := a) (by omega), u8_of (b := b) (by omega), u8_of (b := c) (by omega)]
        | a :: b :: c :: d :: l, hno, hn =>
          have hz : a ≠ 48 := fun e => hno (.inr (.inr ⟨by simp, by rw [e]; rfl⟩))
          have hz' : a.toNat ≠ 48 := fun e => hz (UInt8.toNat_inj.1 e)
          obtain ⟨a1, a2, hn⟩ := cnt_some hn
          obtain ⟨b1, b2, hn⟩ := cnt_some hn
          obtain ⟨c1, c2, hn⟩ := cnt_some hn
          obtain ⟨d1, d2, hn⟩ := cnt_some hn
          have := cntL_ge hn
          omega
/-! Both readings. -/
theorem splitD_ne (d : UInt8) (s : ByteArray) : splitD d s ≠ [] := by
  rcases split_cases d s with h | ⟨x, y, rfl, h⟩
  · rw [splitD_one h]; simp
  · rw [splitD_cons h]; simp
theorem split_head {d : UInt8} {s x : ByteArray} {r : List ByteArray} (h : splitD d s = x :: r) : ¬ hasB d x ∧ ((r = [] ∧ s = x) ∨ ∃ y, s = x ++ (sepB d ++ y) ∧ splitD d y = r) := by
  rcases split_cases d s with q | ⟨x', y, rfl, q⟩
  · rw [splitD_one q] at h
    injection h with h1 h2
    subst h1
    exact ⟨q, .inl ⟨h2.symm, rfl⟩⟩
  · rw [splitD_cons q] at h
    injection h with h1 h2
    subst h1
    exact ⟨q, .inr ⟨y, rfl, h2⟩⟩
theorem split_last {d : UInt8} {s x : ByteArray} (h : splitD d s = [x]) : s = x := by
  rcases (split_head h).2 with ⟨_, e⟩ | ⟨y, _, e⟩
  · exact e
  · exact absurd e (splitD_ne d y)
theorem split_next {d : UInt8} {s x y : ByteArray} {r : List ByteArray} (h : splitD d s = x :: y :: r) : ∃ t, s = x ++ (sepB d ++ t) ∧ splitD d t = y :: r := by
  rcases (split_head h).2 with ⟨e, _⟩ | q
  · cases e
  · exact q
theorem psAcc_rng : ∀ {l : List ByteArray} {a b : Int}, psAcc a l = some b → 0 ≤ a → a ≤ 4294967295 → 0 ≤ b ∧ b ≤ 4294967295
  | [], a, b, h, h0, h1 => by injection h with h; omega
  | x :: l, a, b, h, h0, h1 => by
    rw [psAcc] at h
    split at h
    · rename_i k hk
      have := parseB_lt hk
      exact psAcc_rng h (by omega) (by omega)
    · cases h
theorem psAcc4 {n0 n1 n2 n3 : Int} (h0 : 0 ≤ n0 ∧ n0 ≤ 255) (h1 : 0 ≤ n1 ∧ n1 ≤ 255) (h2 : 0 ≤ n2 ∧ n2 ≤ 255) (h3 : 0 ≤ n3 ∧ n3 ≤ 255) : psAcc 0 [digS n0, digS n1, digS n2, digS n3] = some (256 * (256 * (256 * n0 + n1) + n2) + n3) := by
  obtain ⟨_, p0, _⟩ := small h0.1 h0.2
  obtain ⟨_, p1, _⟩ := small h1.1 h1.2
  obtain ⟨_, p2, _⟩ := small h2.1 h2.2
  obtain ⟨_, p3, _⟩ := small h3.1 h3.2
  simp only [psAcc, p0, p1, p2, p3]
  congr 1
  omega
theorem pieces4 {n0 n1 n2 n3 : Int} (h0 : 0 ≤ n0 ∧ n0 ≤ 255) (h1 : 0 ≤ n1 ∧ n1 ≤ 255) (h2 : 0 ≤ n2 ∧ n2 ≤ 255) (h3 : 0 ≤ n3 ∧ n3 ≤ 255) : pieces (digS n0 ++ (dot ++ (digS n1 ++ (dot ++ (digS n2 ++ (dot ++ digS n3)))))) = [digS n0, digS n1, digS n2, digS n3] := by
  show splitD 46 (digS n0 ++ (sepB 46 ++ (digS n1 ++ (sepB 46 ++ (digS n2 ++ (sepB 46 ++ digS n3)))))) = _
  rw [splitD_cons (small h0.1 h0.2).2.2.1, splitD_cons (small h1.1 h1.2).2.2.1, splitD_cons (small h2.1 h2.2).2.2.1, splitD_one (small h3.1 h3.2).2.2.1]
theorem prS_of {n0 n1 n2 n3 : Int} (h0 : 0 ≤ n0 ∧ n0 ≤ 255) (h1 : 0 ≤ n1 ∧ n1 ≤ 255) (h2 : 0 ≤ n2 ∧ n2 ≤ 255) (h3 : 0 ≤ n3 ∧ n3 ≤ 255) : prS (256 * (256 * (256 * n0 + n1) + n2) + n3) = digS n0 ++ (dot ++ (digS n1 ++ (dot ++ (digS n2 ++ (dot ++ digS n3))))) := by
  unfold prS
  rw [show (256 * (256 * (256 * n0 + n1) + n2) + n3) / 16777216 = n0 from by omega, show (256 * (256 * (256 * n0 + n1) + n2) + n3) / 65536 % 256 = n1 from by omega, show (256 * (256 * (256 * n0 + n1) + n2) + n3) / 256 % 256 = n2 from by omega, show (256 * (256 * (256 * n0 + n1) + n2) + n3) % 256 = n3 from by omega]
/-- An address that is printed is read again. -/
theorem rf_prS {a : Int} (a0 : 0 ≤ a) (a1 : a ≤ 4294967295) : rfV (prS a) = (a, 0) := by
  have h0 : 0 ≤ a / 16777216 ∧ a / 16777216 ≤ 255 := by omega
  have h1 : 0 ≤ a / 65536 % 256 ∧ a / 65536 % 256 ≤ 255 := by omega
  have h2 : 0 ≤ a / 256 % 256 ∧ a / 256 % 256 ≤ 255 := by omega
  have h3 : 0 ≤ a % 256 ∧ a % 256 ≤ 255 := by omega
  unfold rfV prS
  rw [pieces4 h0 h1 h2 h3]
  show (if _ then _ else _) = _
  rw [(small h0.1 h0.2).1, (small h1.1 h1.2).1, (small h2.1 h2.2).1, (small h3.1 h3.2).1, if_neg (by omega)]
  congr 1
  omega
/-- What the document reads prints as it was. -/
theorem rf_ok {s : ByteArray} {a : Int} (h : rfV s = (a, 0)) : prS a = s ∧ psAcc 0 (pieces s) = some a ∧ 0 ≤ a ∧ a ≤ 4294967295 := by
  unfold rfV at h
  match hp : pieces s with
  | [] => rw [hp] at h; simp [rfL] at h
  | [_] => rw [hp] at h; simp [rfL] at h
  | [_, _] => rw [hp] at h; simp [rfL] at h
  | [_, _, _] => rw [hp] at h; simp [rfL] at h
  | _ :: _ :: _ :: _ :: _ :: _ => rw [hp] at h; simp [rfL] at h
  | [x0, x1, x2, x3] =>
    rw [hp] at h
    change (if _ then _ else _) = _ at h
    split at h
    · injection h with _ h; cases h
    · rename_i hn
      injection h with h _
      obtain ⟨e0, l0⟩ := cnt_dig (x := x0) (m := 255) (by decide) (by omega)
      obtain ⟨e1, l1⟩ := cnt_dig (x := x1) (m := 255) (by decide) (by omega)
      obtain ⟨e2, l2⟩ := cnt_dig (x := x2) (m := 255) (by decide) (by omega)
      obtain ⟨e3, l3⟩ := cnt_dig (x := x3) (m := 255) (by decide) (by omega)
      have r0 : 0 ≤ cntN x0 255 ∧ cntN x0 255 ≤ 255 := by omega
      have r1 : 0 ≤ cntN x1 255 ∧ cntN x1 255 ≤ 255 := by omega
      have r2 : 0 ≤ cntN x2 255 ∧ cntN x2 255 ≤ 255 := by omega
      have r3 : 0 ≤ cntN x3 255 ∧ cntN x3 255 ≤ 255 := by omega
      obtain ⟨t1, q1, hp1⟩ := split_next (d := 46) (s := s) hp
      obtain ⟨t2, q2, hp2⟩ := split_next hp1
      obtain ⟨t3, q3, hp3⟩ := split_next hp2
      have q4 := split_last hp3
      subst h
      refine ⟨?_, ?_, by omega, by omega⟩
      · rw [prS_of r0 r1 r2 r3, ← e0, ← e1, ← e2, ← e3, q1, q2, q3, q4]
        rfl
      · rw [e0, e1, e2, e3] at hp ⊢
        rw [← e0, ← e1, ← e2, ← e3]
        have := psAcc4 r0 r1 r2 r3
        rwa [← e0, ← e1, ← e2, ← e3] at this
/-- THE LAW. -/
theorem ps_rf (s : ByteArray) : psV s = rfV s := by
  have hlast : ∀ p : Int × Int, rfV s = p → p.2 = 0 ∨ p = (0, 4) := by
    rintro p rfl
    unfold rfV rfL
    split
    · split
      · exact .inr rfl
      · exact .inl rfl
    · exact .inr rfl
  rcases hlast _ rfl with h | h
  · obtain ⟨e1, e2, _, _⟩ := rf_ok (a := (rfV s).1) (s := s) (by rw [← h])
    unfold psV
    rw [e2]
    show (if prS (rfV s).1 = s then _ else _) = _
    rw [if_pos e1, ← h]
  · unfold psV
    split
    · rename_i a ha
      split
      · rename_i e
        obtain ⟨b0, b1⟩ := psAcc_rng ha (by decide) (by decide)
        have := rf_prS b0 b1
        rw [e] at this
        exact this.symm
      · exact h.symm
    · exact h.symm
end Go.Proofs.YtdkgekmjkindmaaDoor
