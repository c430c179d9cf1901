/- The reference's piece at a place: what it comes to. -/
import Derived.Test.YthjigajielhkfaaAt
namespace Go.Proofs.Ythjigajielhkfaa
open Go.RowKit Sy
set_option linter.unusedVariables false
set_option linter.unusedSimpArgs false

structure AtI (A : ByteArray) (shut : Bool) (lo limit mss : Int) (ρ : Env) : Prop where
  g : ρ.good
  i0 : ρ.i 0 = lo
  i1 : ρ.i 1 = limit
  i2 : ρ.i 2 = mss
  b0 : ρ.b 0 = shut
  s0 : ρ.s 0 = A
  n : ρ.i 3 = lo + ((ρ.s 1).size : Int)
  le : ((ρ.s 1).size : Int) ≤ pcM ((A.size : Int) + 1) lo limit mss
  s1 : ρ.s 1 = A.extract (lo - 1).toNat (ρ.i 3 - 1).toNat
structure AtIn (A : ByteArray) (lo limit mss : Int) : Prop where
  a : A.size ≤ 576460752303423488
  f0 : 0 ≤ lo
  f1 : lo ≤ 1152921504606846976
  l0 : -9223372036854775808 ≤ limit
  l1 : limit ≤ 9223372036854775807
  m0 : -9223372036854775808 ≤ mss
  m1 : mss ≤ 9223372036854775807
theorem AtIn.cx {A : ByteArray} {lo limit mss : Int} (h : AtIn A lo limit mss) {ρ : Env} (h0 : ρ.i 0 = lo) (h1 : ρ.i 1 = limit) (h2 : ρ.i 2 = mss) (hs : ρ.s 0 = A) : ∀ x ∈ atBs, Bd.ok ρ x := by
  obtain ⟨a, f0, f1, l0, l1, m0, m1⟩ := h
  intro x hx
  change x ∈ [_, _, _, _] at hx
  simp only [List.mem_cons, List.not_mem_nil, or_false] at hx
  rcases hx with rfl | rfl | rfl | rfl
  · show (0 : Int) ≤ ρ.i 0 ∧ ρ.i 0 ≤ 1152921504606846976
    omega
  · show -9223372036854775808 ≤ ρ.i 1 ∧ ρ.i 1 ≤ 9223372036854775807
    omega
  · show -9223372036854775808 ≤ ρ.i 2 ∧ ρ.i 2 ≤ 9223372036854775807
    omega
  · show (0 : Int) ≤ ((ρ.s 0).size : Int) ∧ ((ρ.s 0).size : Int) ≤ 576460752303423488
    rw [hs]
    omega
theorem AtI.cx {A : ByteArray} {shut : Bool} {lo limit mss : Int} {ρ : Env} (h : AtI A shut lo limit mss ρ) (hi : AtIn A lo limit mss) (h1 : 1 ≤ lo) (h2 : lo ≤ (A.size : Int) + 1) : atT.cx.ok ρ := by
  have hb := hi.cx h.i0 h.i1 h.i2 h.s0
  have hn := h.n
  have hle := h.le
  have ha := hi.a
  unfold pcM at hle
  refine ⟨fun x hx => ?_, fun t ht => by cases ht⟩
  change x ∈ _ :: _ :: atBs at hx
  rcases List.mem_cons.1 hx with rfl | hx
  · show (1 : Int) ≤ ρ.i 3 ∧ ρ.i 3 ≤ 1152921504606846976
    omega
  rcases List.mem_cons.1 hx with rfl | hx
  · show (0 : Int) ≤ ((ρ.s 1).size : Int) ∧ ((ρ.s 1).size : Int) ≤ 576460752303423488
    omega
  · exact hb x hx
theorem extract_step (A : ByteArray) {i j : Nat} (h : i ≤ j) (hj : j ≤ A.size) (hj1 : j + 1 ≤ A.size) : A.extract i j ++ A.extract j (j + 1) = A.extract i (j + 1) := by
  apply ByteArray.ext
  apply Array.ext'
  have hl : A.data.toList.length = A.size := rfl
  simp only [ByteArray.data_append, Array.toList_append, ByteArray.data_extract, Array.toList_extract, List.extract_eq_take_drop]
  apply List.ext_getElem?
  intro k
  by_cases hk : k < j - i
  · rw [List.getElem?_append_left (by simp; omega)]
    simp only [List.getElem?_take, List.getElem?_drop]
    rw [if_pos hk, if_pos (by omega)]
  · rw [List.getElem?_append_right (by simp; omega)]
    simp only [List.length_take, List.length_drop, List.getElem?_take, List.getElem?_drop]
    by_cases hk2 : k = j - i
    · rw [if_pos (by omega), if_pos (by omega)]
      congr 1
      omega
    · rw [if_neg (by omega), if_neg (by omega)]
def outCells (A : ByteArray) (shut : Bool) (una cur sent : Int) : List Value := [.string A, .bool shut, .int .i64 una, .int .i64 cur, .int .i64 sent]
set_option maxRecDepth 100000 in
set_option maxHeartbeats 4000000 in
theorem at_calls (g : Nat) (A : ByteArray) (shut : Bool) (una cur sent lo limit mss : Int) (body : ByteArray) (w : World) (hg : Blk w g 44 (outCells A shut una cur sent)) (hi : AtIn A lo limit mss)
    (hbody : 1 ≤ lo → body = A.extract (lo - 1).toNat (lo - 1 + pcM ((A.size : Int) + 1) lo limit mss).toNat) :
    Calls Try.prog 34 #[.pointer (some ⟨g, 0, none⟩), .int .i64 lo, .int .i64 limit, .int .i64 mss] w (RetP fun v w' => v = pcV ((A.size : Int) + 1) shut lo limit mss body ∧ Below w.heap.size w w') := by
  let ρ0 : Env := mkEnv [lo, limit, mss, 0, una, cur, sent] [shut] [A] []
  have hM0 : Md ρ0 (fun _ => False) w (fun _ => g) 4 atS (fun _ => g) ⟨#[], []⟩ w := by
    refine ⟨rfl, fun b hb' => ?_, fun x hx y hy hxy hrx hry => ?_, fun b hb' hw _ => ?_, ⟨hi.cx (ρ := ρ0) rfl rfl rfl rfl, fun t ht => by cases ht⟩, Only.refl _ _, fun _ _ => rfl⟩
    · change b ∈ [_] at hb'
      simp only [List.mem_cons, List.not_mem_nil, or_false] at hb'
      subst hb'
      exact hg
    · change x ∈ [_] at hx
      change y ∈ [_] at hy
      simp only [List.mem_cons, List.not_mem_nil, or_false] at hx hy
      subst hx hy
      exact absurd rfl hxy
    · change b ∈ [_] at hb'
      simp only [List.mem_cons, List.not_mem_nil, or_false] at hb'
      subst hb'
      cases hw
  have j0 : ρ0.i 0 = lo := rfl
  have j1 : ρ0.i 1 = limit := rfl
  have j2 : ρ0.i 2 = mss := rfl
  have jb : ρ0.b 0 = shut := rfl
  have js : ρ0.s 0 = A := rfl
  have hgood : ρ0.good := fun i => rfl
  have r0 : ∀ k : Nat, k ∈ [0, 3, 4, 7, 8] → retS Try.prog (lfAt (at0 Try.prog Try.f34) k) Try.f34.results.toList = some (.tup [.agg atZ, .c (.bool (.bl false))]) := fun k hk => List.map_inj_left.1 at_ret0 k hk
  have r1 : ∀ k : Nat, k ∈ [1, 5] → retS Try.prog (lfAt (at0 Try.prog Try.f34) k) Try.f34.results.toList = some (.tup [.agg atY, .c (.bool (.bl true))]) := fun k hk => List.map_inj_left.1 at_ret1 k hk
  have main : ∀ (k : Nat), (matchS 4 atT (lfAt (at0 Try.prog Try.f34) k)).map noU = some [.i 3 (.iv 0), .s 1 (.sl [])] → 1 ≤ lo → lo ≤ (A.size : Int) + 1 → ¬ (limit ≤ lo ∨ ((A.size : Int) + 1) + (if shut then 1 else 0) ≤ lo ∨ mss < 1) → ∀ β a w1, Md ρ0 (fun _ => False) w (fun _ => g) 4 (lfAt (at0 Try.prog Try.f34) k) β a w1 →
      (Sy.sub atP (bodyOf Try.f34)).wp Try.prog (ctx Try.prog atP (bodyOf Try.f34) (bodyPost Try.prog Try.f34 (RetP fun v w' => v = pcV ((A.size : Int) + 1) shut lo limit mss body ∧ Below w.heap.size w w'))) a w1 := by
    intro k hmt h1 h2 hno β a w1 hM1
    rw [← at_loop]
    have hI1 : ∀ u, AtI A shut lo limit mss { ρ0.sub β [.i 3 (.iv 0), .s 1 (.sl [])] with u := u } := fun u => by
      refine ⟨fun i => rfl, rfl, rfl, rfl, rfl, rfl, ?_, ?_, ?_⟩
      · show lo = lo + ((0 : Nat) : Int)
        omega
      · show ((0 : Nat) : Int) ≤ _
        unfold pcM
        omega
      · show none8 = A.extract (lo - 1).toNat (lo - 1).toNat
        apply ByteArray.ext
        show (#[] : Array UInt8) = _
        simp
    obtain ⟨u, β', hM2⟩ := Sy.Md.enter hM1 hmt fun u => (hI1 u).cx hi h1 h2
    refine loop_wp (w0 := w) (r := at1 Try.prog Try.f34) rfl at_run1 (AtI A shut lo limit mss) (fun ρ => ((A.size : Int) + 2 - ρ.i 3).toNat) (fun ρ hI => hI.g) (fun ρ hI q hq => by cases hq) (fun ρ hI => hI.cx hi h1 h2) ?_ (hI1 u) hM2
    intro ρ hI
    have hI' := hI
    obtain ⟨k0, k1, k2, k3, k4, k5, k6, k7, k8⟩ := hI'
    have fin : ((ρ.s 1).size : Int) = pcM ((A.size : Int) + 1) lo limit mss → ρ.s 1 = body := fun hm => by
      rw [hbody h1, k8, k6, hm]
      congr 2
      omega
    have ends : ∀ (F : Tm) pc, (pcs ρ pc → ((ρ.s 1).size : Int) = pcM ((A.size : Int) + 1) lo limit mss ∧ (den ρ F).b = (shut && decide (lo + pcM ((A.size : Int) + 1) lo limit mss = (A.size : Int) + 1 ∧ (A.size : Int) + 1 < limit))) →
        Sm.done ⟨ρ, fun _ => False, w, fun _ => g, 4⟩ (fun v w' => v = pcV ((A.size : Int) + 1) shut lo limit mss body ∧ Below w.heap.size w w') (.ret (.tup [.agg [.int .i64 (.iv 0), .bool (.bl false), .bool F, .str (.sv 1)], .c (.bool (.bl true))]) atHp pc) := by
      intro F pc hp hpc β w' hH
      obtain ⟨g1, g2⟩ := hp hpc
      exact ⟨pcEnd hno (by omega) k1 g2 (fin g1), Sy.Only.below_all hH.only⟩
    unfold pcM at k7
    have hb1 := k5
    refine ⟨?_, ?_, ?_, ?_, ?_, trivial⟩
    · intro hpc
      simp only [t_le, i_iv, i_il, i_add]
      omega
    · intro hpc β u
      replace hpc : pcs ρ _ := hpc
      simp only [pcs, t_lt, t_le, t_eq, t_not, i_iv, i_il, i_add, i_len, s_sv, k5, and_true] at hpc
      have e1 : (ρ.s 1 ++ (ρ.s 0).extract (ρ.i 3 + -1).toNat (ρ.i 3).toNat) = A.extract (lo - 1).toNat (ρ.i 3).toNat := by
        rw [k8, k5, show (ρ.i 3 + -1).toNat = (ρ.i 3 - 1).toNat from rfl, show (ρ.i 3).toNat = (ρ.i 3 - 1).toNat + 1 from by omega]
        exact extract_step A (by omega) (by omega) (by omega)
      have e2 : ((ρ.s 1 ++ (ρ.s 0).extract (ρ.i 3 + -1).toNat (ρ.i 3).toNat).size : Int) = ((ρ.s 1).size : Int) + 1 := by
        rw [ByteArray.size_append, k5]
        have : (A.extract (ρ.i 3 + -1).toNat (ρ.i 3).toNat).size = 1 := by simp; omega
        rw [this]
        omega
      refine ⟨⟨k0, k1, k2, k3, k4, k5, ?_, ?_, ?_⟩, ?_⟩
      · show ρ.i 3 + 1 = lo + ((ρ.s 1 ++ (ρ.s 0).extract (ρ.i 3 + -1).toNat (ρ.i 3).toNat).size : Int)
        rw [e2]
        omega
      · show ((ρ.s 1 ++ (ρ.s 0).extract (ρ.i 3 + -1).toNat (ρ.i 3).toNat).size : Int) ≤ _
        rw [e2]
        unfold pcM
        omega
      · show ρ.s 1 ++ (ρ.s 0).extract (ρ.i 3 + -1).toNat (ρ.i 3).toNat = A.extract (lo - 1).toNat (ρ.i 3 + 1 - 1).toNat
        rw [e1]
        congr 1
        omega
      · show ((A.size : Int) + 2 - (ρ.i 3 + 1)).toNat < ((A.size : Int) + 2 - ρ.i 3).toNat
        omega
    · intro hpc β a w' hM
      refine aft_fin (B := ⟨ρ, fun _ => False, w, fun _ => g, 4⟩) k0 (fun q hq => by cases hq) rfl (.exit 0) at_aft2 ?_ hM
      refine ⟨ends _ _ ?_, ends _ _ ?_, ends _ _ ?_, trivial⟩
      all_goals
        intro hpc
        replace hpc : pcs ρ _ := hpc
        simp only [pcs, t_lt, t_le, t_eq, t_not, t_bv, i_iv, i_il, i_add, i_len, s_sv, k1, k2, k3, k4, k5, and_true] at hpc
        refine ⟨by unfold pcM; omega, ?_⟩
        cases shut <;> (rw [Bool.eq_iff_iff]; simp only [t_lt, t_bl, i_iv, i_il, i_add, i_len, k2, Bool.true_and, Bool.false_and, decide_eq_true_eq, Bool.false_eq_true, false_iff, true_iff, not_true_eq_false, and_false, false_and] at hpc ⊢) <;> (try unfold pcM) <;> omega
    · intro hpc β a w' hM
      refine aft_fin (B := ⟨ρ, fun _ => False, w, fun _ => g, 4⟩) k0 (fun q hq => by cases hq) rfl (.exit 0) at_aft3 ?_ hM
      refine ⟨ends _ _ ?_, ends _ _ ?_, ends _ _ ?_, trivial⟩
      all_goals
        intro hpc
        replace hpc : pcs ρ _ := hpc
        simp only [pcs, t_lt, t_le, t_eq, t_not, t_bv, i_iv, i_il, i_add, i_len, s_sv, k1, k2, k3, k4, k5, and_true] at hpc
        refine ⟨by unfold pcM; omega, ?_⟩
        cases shut <;> (rw [Bool.eq_iff_iff]; simp only [t_lt, t_bl, i_iv, i_il, i_add, i_len, k2, Bool.true_and, Bool.false_and, decide_eq_true_eq, Bool.false_eq_true, false_iff, true_iff, not_true_eq_false, and_false, false_and] at hpc ⊢) <;> (try unfold pcM) <;> omega
    · intro hpc β a w' hM
      refine aft_fin (B := ⟨ρ, fun _ => False, w, fun _ => g, 4⟩) k0 (fun q hq => by cases hq) rfl (.exit 0) at_aft4 ?_ hM
      refine ⟨ends _ _ ?_, ends _ _ ?_, ends _ _ ?_, trivial⟩
      all_goals
        intro hpc
        replace hpc : pcs ρ _ := hpc
        simp only [pcs, t_lt, t_le, t_eq, t_not, t_bv, i_iv, i_il, i_add, i_len, s_sv, k1, k2, k3, k4, k5, and_true] at hpc
        refine ⟨by unfold pcM; omega, ?_⟩
        cases shut <;> (rw [Bool.eq_iff_iff]; simp only [t_lt, t_bl, i_iv, i_il, i_add, i_len, k2, Bool.true_and, Bool.false_and, decide_eq_true_eq, Bool.false_eq_true, false_iff, true_iff, not_true_eq_false, and_false, false_and] at hpc ⊢) <;> (try unfold pcM) <;> omega
  refine calls_pre (B := ⟨ρ0, fun _ => False, w, fun _ => g, 4⟩) (sp := []) (p := atP) (xs := atArgs) (s := atS) (r := at0 Try.prog Try.f34) hgood (fun q hq => by cases hq) rfl Try.func34 rfl rfl at_run0 hM0 ?_ rfl
  have bad : ∀ (k : Nat), k ∈ [0, 3, 4, 7, 8] → (limit ≤ lo ∨ ((A.size : Int) + 1) + (if shut then 1 else 0) ≤ lo ∨ mss < 1) → ∀ β a w', Md ρ0 (fun _ => False) w (fun _ => g) 4 (lfAt (at0 Try.prog Try.f34) k) β a w' → bodyPost Try.prog Try.f34 (RetP fun v w' => v = pcV ((A.size : Int) + 1) shut lo limit mss body ∧ Below w.heap.size w w') .ret a w' := by
    intro k hk h β a w' hM
    refine ret_post (B := ⟨ρ0, fun _ => False, w, fun _ => g, 4⟩) hM (r0 k hk) ⟨?_, Sy.Only.below_all hM.only⟩
    rw [pcV_none h]
    rfl
  have syn : ∀ (k : Nat), k ∈ [1, 5] → ¬ (limit ≤ lo ∨ ((A.size : Int) + 1) + (if shut then 1 else 0) ≤ lo ∨ mss < 1) → lo = 0 → ∀ β a w', Md ρ0 (fun _ => False) w (fun _ => g) 4 (lfAt (at0 Try.prog Try.f34) k) β a w' → bodyPost Try.prog Try.f34 (RetP fun v w' => v = pcV ((A.size : Int) + 1) shut lo limit mss body ∧ Below w.heap.size w w') .ret a w' := by
    intro k hk h h0 β a w' hM
    refine ret_post (B := ⟨ρ0, fun _ => False, w, fun _ => g, 4⟩) hM (r1 k hk) ⟨?_, Sy.Only.below_all hM.only⟩
    rw [pcV_syn h h0]
    rfl
  have hf0 := hi.f0
  refine ⟨?_, ?_, ?_, ?_, ?_, ?_, ?_, ?_, ?_, trivial⟩
  all_goals
    intro hpc
    replace hpc : pcs ρ0 _ := hpc
    simp only [pcs, t_lt, t_le, t_eq, t_not, t_bv, i_iv, i_il, i_add, i_len, s_sv, j0, j1, j2, jb, js, and_true] at hpc
  · exact bad 0 (by simp) (by cases shut <;> simp only [Bool.false_eq_true, if_false, if_true, not_true_eq_false, not_false_eq_true, and_false, false_and, and_true] at hpc ⊢ <;> omega)
  · exact syn 1 (by simp) (by cases shut <;> simp only [Bool.false_eq_true, if_false, if_true, not_true_eq_false, not_false_eq_true, and_false, false_and, and_true] at hpc ⊢ <;> omega) (by omega)
  · exact main 2 at_match2 (by omega) (by cases shut <;> simp only [Bool.false_eq_true, if_false, if_true, not_true_eq_false, not_false_eq_true, and_false, false_and, and_true] at hpc ⊢ <;> omega) (by cases shut <;> simp only [Bool.false_eq_true, if_false, if_true, not_true_eq_false, not_false_eq_true, and_false, false_and, and_true] at hpc ⊢ <;> omega)
  · exact bad 3 (by simp) (by cases shut <;> simp only [Bool.false_eq_true, if_false, if_true, not_true_eq_false, not_false_eq_true, and_false, false_and, and_true] at hpc ⊢ <;> omega)
  · exact bad 4 (by simp) (by cases shut <;> simp only [Bool.false_eq_true, if_false, if_true, not_true_eq_false, not_false_eq_true, and_false, false_and, and_true] at hpc ⊢ <;> omega)
  · exact syn 5 (by simp) (by cases shut <;> simp only [Bool.false_eq_true, if_false, if_true, not_true_eq_false, not_false_eq_true, and_false, false_and, and_true] at hpc ⊢ <;> omega) (by omega)
  · exact main 6 at_match6 (by omega) (by cases shut <;> simp only [Bool.false_eq_true, if_false, if_true, not_true_eq_false, not_false_eq_true, and_false, false_and, and_true] at hpc ⊢ <;> omega) (by cases shut <;> simp only [Bool.false_eq_true, if_false, if_true, not_true_eq_false, not_false_eq_true, and_false, false_and, and_true] at hpc ⊢ <;> omega)
  · exact bad 7 (by simp) (by cases shut <;> simp only [Bool.false_eq_true, if_false, if_true, not_true_eq_false, not_false_eq_true, and_false, false_and, and_true] at hpc ⊢ <;> omega)
  · exact bad 8 (by simp) (by cases shut <;> simp only [Bool.false_eq_true, if_false, if_true, not_true_eq_false, not_false_eq_true, and_false, false_and, and_true] at hpc ⊢ <;> omega)
#print axioms at_calls
end Go.Proofs.Ythjigajielhkfaa
