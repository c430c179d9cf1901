/- The document's AddrParse. -/
import Derived.Test.YtdkgekmjkindmaaDoorAd7
namespace Go.Proofs.YtdkgekmjkindmaaDoor
open Go.RowKit Go.Lib Sy
set_option linter.unusedVariables false
set_option linter.unusedSimpArgs false
theorem cntN_le {s : ByteArray} {m : Int} (h0 : 0 ≤ m) : -1 ≤ cntN s m ∧ cntN s m ≤ m := by
  unfold cntN
  split
  · omega
  · split
    · omega
    · split <;> omega
theorem count_calls (s : ByteArray) (most : Int) (w : World) : Calls Tryd.prog 20 #[.string s, .int .i64 most] w fun e w' => e = .returned (.int .i64 (cntN s most)) ∧ w' = w :=
  callsIn_wide.1 (count_in s most w)
def ctSel (c : Cx) : List SV → Option (List Tm × SV × List Bd)
  | [.one (.c (.str x)), .one (.c (.int .i64 m))] => some (need c (.le (.il 0) m) ++ need c (.le m (.il 255)), .one (.c (.int .i64 (.ap 54 x m (.il 0)))), [⟨.ap 54 x m (.il 0), -1, 255⟩])
  | _ => none
def ctSp : Sy.Spec := libSp 20 ctSel
theorem ctSp_ok {ρ : Env} (ho : ρ.o 0 = libT) (hf : ∀ x y z, ρ.f 54 x y z = dI (cntN x.s y.i)) : ctSp.Ok Tryd.prog ρ := by
  refine libSp_ok ho fun {c xs m v bs} hs hc hm β w hw => ?_
  unfold ctSel at hs
  split at hs
  · rename_i x m
    injection hs with hs
    injection hs with h1 hs
    injection hs with h2 h3
    subst h1 h2 h3
    have q1 := need_ok hc hm.l
    have q2 := need_ok hc hm.r
    rw [t_le, i_il] at q1 q2
    refine ⟨fun y hy => ?_, ?_⟩
    · rw [List.mem_singleton] at hy
      subst hy
      show (-1 : Int) ≤ (ρ.f 54 _ _ _).i ∧ (ρ.f 54 _ _ _).i ≤ 255
      rw [hf]
      have := cntN_le (s := (den ρ x).s) q1
      exact ⟨this.1, Int.le_trans this.2 q2⟩
    · refine (count_calls (den ρ x).s (den ρ m).i w).mono ?_
      rintro e w' ⟨rfl, rfl⟩
      refine ⟨?_, Below.refl _ _⟩
      show _ = Ending.returned (.int .i64 (ρ.f 54 _ _ _).i)
      rw [hf]
      rfl
  · cases hs
/-! strings.Split at one byte. -/
def sepB (d : UInt8) : ByteArray := ⟨#[d]⟩
def splitD (d : UInt8) (s : ByteArray) : List ByteArray := splitB (sepB d) 0 (countB s (sepB d)) s
theorem splitD_dot (s : ByteArray) : splitD 46 s = pieces s := rfl
def rowsS (l : List ByteArray) : List (List Value) := l.map fun x => [.string x]
theorem rowsS_flat : ∀ l : List ByteArray, (rowsS l).flatten = l.map Value.string
  | [] => rfl
  | x :: l => by
    show [Value.string x] ++ (rowsS l).flatten = _
    rw [rowsS_flat l]
    rfl
theorem splitB_size (sep : ByteArray) (save n : Nat) : ∀ (k : Nat) (s : ByteArray), s.size ≤ n → ∀ x ∈ splitB sep save k s, x.size ≤ n
  | 0, s, h, x, hx => by
    rw [splitB_zero, List.mem_singleton] at hx
    subst hx
    exact h
  | k + 1, s, h, x, hx => by
    unfold splitB at hx
    split at hx
    · rw [List.mem_singleton] at hx
      subst hx
      exact h
    · rcases List.mem_cons.1 hx with rfl | hx
      · exact Nat.le_trans (extract_le _ _ _) h
      · exact splitB_size sep save n k _ (Nat.le_trans (extract_le _ _ _) h) x hx
def spOk (d : UInt8) (s : Sy.St) : List SV → Bool
  | [.one (.c (.str (.sv 40))), .one (.c (.str (.sl [e])))] => (match find 0 s.hp with | some ⟨_, _, _, _, none, .own 0 t⟩ => true | _ => false) && d.toNat.beq e.toNat
  | _ => false
def spSp (d : UInt8) : Sy.Spec := ntSp 19 (spOk d) 9 [.str] 41 (fun x => .one x) [⟨.iv 41, 0, 140737488355328⟩]
theorem spSp_ok {ρ : Env} {d : UInt8} {s : ByteArray} (ho : ρ.o 0 = libT) (hs : ρ.s 40 = s) (hz : s.size < 4294967281) (hc : ρ.c 41 = rowsS (splitD d s)) (hi : ρ.i 41 = ((splitD d s).length : Int)) : (spSp d).Ok Tryd.prog ρ := by
  have hlen : (splitD d s).length = countB s (sepB d) + 1 := splitB_all (sepB d) (Nat.le_refl 1) 0 _ s rfl
  have hle := countB_le (sepB d) (Nat.le_refl 1) s.size s (Nat.le_refl _)
  refine ntSp_ok (outV := id) ?_ ?_ (fun _ _ => rfl) ?_
  · intro y hy
    rw [List.mem_singleton] at hy
    subst hy
    show (0 : Int) ≤ ρ.i 41 ∧ ρ.i 41 ≤ 140737488355328
    rw [hi]
    omega
  · rw [hi, hc]
    unfold rowsS
    rw [List.length_map]
  · intro S w0 β0 n0 st xs β a w hok hM
    unfold spOk at hok
    split at hok
    · rename_i e
      rw [Bool.and_eq_true] at hok
      have he : d = e := UInt8.toNat_inj.1 (Nat.eq_of_beq_eq_true hok.2)
      subst he
      have h1 := hok.1
      split at h1
      · rename_i l' ty cs rw' t hfind
        have hme := find_mem hfind
        have hB : (ρ.o 0).P w (β l') (bitF β cs) (den ρ t).c := hM.hp _ hme.1
        rw [ho] at hB
        show Calls Tryd.prog _ #[.string (ρ.s 40), .string (sepB d)] w _
        rw [hs]
        refine (split_calls hB.2.2 s (sepB d) hz (Nat.le_refl 1)).mono ?_
        rintro e w' ⟨rfl, rfl⟩
        have hc0 : countB s (sepB d) + 1 ≠ 0 := by omega
        refine ⟨_, rfl, (Below.refl _ w).alloc (Nat.le_refl _) _, w.heap.size, countB s (sepB d) + 1, ?_, ?_, .inr (Nat.le_refl _)⟩
        · rw [hc]
          unfold rowsS sltV
          rw [List.length_map, hlen, if_neg hc0]
        · rw [hc]
          refine ⟨fun _ => ⟨_, World.alloc_heap_new w _, ?_, by unfold maxLen; omega, ?_⟩, ?_, ?_⟩
          · show ((splitD d s).map Value.string).toArray.size = _
            rw [List.size_toArray, List.length_map, hlen, List.length_singleton, Nat.mul_one]
          · rw [rowsS_flat]
            show (((splitD d s).map Value.string).toArray.toList).take _ = _
            rw [List.take_of_length_le]
            rw [List.length_map, rowsS, List.length_map, List.length_singleton, Nat.mul_one]
            exact Nat.le_refl _
          · unfold rowsS
            rw [List.length_map, hlen]
            exact Nat.le_refl _
          · intro r hr
            unfold rowsS at hr
            obtain ⟨x, hx, rfl⟩ := List.mem_map.1 hr
            exact ⟨⟨x, rfl, by have := splitB_size (sepB d) 0 s.size _ s (Nat.le_refl _) x hx; unfold maxLen; omega⟩, trivial⟩
      · cases h1
    · cases hok
/-! AddrParse. -/
def rfL (l : List ByteArray) : Int × Int := match l with
  | [x0, x1, x2, x3] => if cntN x0 255 < 0 ∨ cntN x1 255 < 0 ∨ cntN x2 255 < 0 ∨ cntN x3 255 < 0 then (0, 4) else (256 * (256 * (256 * cntN x0 255 + cntN x1 255) + cntN x2 255) + cntN x3 255, 0)
  | _ => (0, 4)
def rfV (s : ByteArray) : Int × Int := rfL (pieces s)
def rfF : Nat → Dn → Dn → Dn → Dn := fun n x y z => match n with
  | 54 => dI (cntN x.s y.i)
  | _ => x
def rfE (s : ByteArray) (l : List ByteArray) : Env := { mkEnv0 [] [] [] [] with i := fun j => if j = 41 then (l.length : Int) else 0, s := fun j => if j = 40 then s else none8, c := fun j => if j = 41 then rowsS l else [], f := rfF, o := fun _ => libT }
def rfA : List SV := [.one (.c (.str (.sv 40)))]
def rfRun (P : Program) (fn : Func) (lo hi : Int) : Rs := run P [spSp 46, ctSp] 10 400 2 (.code (bodyOf fn)) (enterS fn rfA (libS [⟨.iv 41, lo, hi⟩, ⟨tlen (.cv 41), lo, hi⟩] 50))
def rfC (k : Int) : Tm := .ap 54 (.tb (.get .str 0) (.cv 41) (.il k) (.il 0)) (.il 255) (.il 0)
def rfN : SV := .tup [.c (.int .u32 (.il 0)), .c (.int .i64 (.il 4))]
def rfY : SV := .tup [.c (.int .u32 (.add (.mul (.il 256) (.add (.mul (.il 256) (.add (.mul (.il 256) (rfC 0)) (rfC 1))) (rfC 2))) (rfC 3))), .c (.int .i64 (.il 0))]
def rfB (k : Int) : Tm := .lt (rfC k) (.il 0)
set_option maxRecDepth 100000 in
theorem rf_run4 : smR Tryd.prog Tryd.f6 2 (rfRun Tryd.prog Tryd.f6 4 4) = some [.ret rfN [libB] [rfB 0], .ret rfN [libB] [rfB 1, .not (rfB 0)], .ret rfN [libB] [rfB 2, .not (rfB 1), .not (rfB 0)], .ret rfN [libB] [rfB 3, .not (rfB 2), .not (rfB 1), .not (rfB 0)], .ret rfY [libB] [.not (rfB 3), .not (rfB 2), .not (rfB 1), .not (rfB 0)]] := by kernel_rfl
set_option maxRecDepth 100000 in
theorem rf_run5 : smR Tryd.prog Tryd.f6 2 (rfRun Tryd.prog Tryd.f6 5 140737488355328) = some [.must (.le (.iv 41) (tlen (.cv 41))) [], .ret rfN [libB] [.le (.iv 41) (tlen (.cv 41))]] := by kernel_rfl
set_option maxRecDepth 100000 in
theorem rf_run3 : smR Tryd.prog Tryd.f6 2 (rfRun Tryd.prog Tryd.f6 0 3) = some [.must (.le (.iv 41) (tlen (.cv 41))) [], .ret rfN [libB] [.le (.iv 41) (tlen (.cv 41))]] := by kernel_rfl
theorem rf_md (s : ByteArray) (l : List ByteArray) {w : World} (hw : LibW w) {lo hi : Int} (h0 : lo ≤ (l.length : Int)) (h1 : (l.length : Int) ≤ hi) : Md (rfE s l) (fun _ => False) w libβ 2 (libS [⟨.iv 41, lo, hi⟩, ⟨tlen (.cv 41), lo, hi⟩] 50) libβ ⟨#[], []⟩ w :=
  lib_md (ρ := rfE s l) (bs := [⟨.iv 41, lo, hi⟩, ⟨tlen (.cv 41), lo, hi⟩]) rfl hw (cxP ⟨⟨h0, h1⟩, ⟨by show lo ≤ (((rowsS l).length : Nat) : Int); rw [rowsS, List.length_map]; exact h0, by show (((rowsS l).length : Nat) : Int) ≤ hi; rw [rowsS, List.length_map]; exact h1⟩, trivial⟩ trivial) 50
theorem rf_sp (s : ByteArray) (hz : s.size < 4294967281) : ∀ q ∈ [spSp 46, ctSp], q.Ok Tryd.prog (rfE s (pieces s)) := by
  intro q hq
  simp only [List.mem_cons, List.not_mem_nil, or_false] at hq
  rcases hq with rfl | rfl
  · exact spSp_ok (s := s) rfl rfl hz rfl rfl
  · exact ctSp_ok rfl fun _ _ _ => rfl
theorem rf_must (s : ByteArray) (l : List ByteArray) : (den (rfE s l) (.le (.iv 41) (tlen (.cv 41)))).b = true := by
  rw [t_le]
  show (l.length : Int) ≤ (((rowsS l).length : Nat) : Int)
  rw [rowsS, List.length_map]
  exact Int.le_refl _
theorem aparse_calls (s : ByteArray) (hz : s.size < 4294967281) {w : World} (hw : LibW w) : Calls Tryd.prog 6 #[.string s] w fun e w' => e = .returned (.tuple #[.int .u32 (rfV s).1, .int .i64 (rfV s).2]) ∧ Below w.heap.size w w' := by
  have hlen : (pieces s).length = countB s dot + 1 := splitB_all dot (Nat.le_refl 1) 0 _ s rfl
  have hle := countB_le dot (Nat.le_refl 1) s.size s (Nat.le_refl _)
  have hsp := rf_sp s hz
  have fin : ∀ {e w'}, (∃ v, e = Ending.returned v ∧ v = .tuple #[.int .u32 (rfV s).1, .int .i64 (rfV s).2] ∧ Below w.heap.size w w') → e = .returned (.tuple #[.int .u32 (rfV s).1, .int .i64 (rfV s).2]) ∧ Below w.heap.size w w' := by
    rintro e w' ⟨v, rfl, rfl, hb⟩
    exact ⟨rfl, hb⟩
  rcases Nat.lt_trichotomy (pieces s).length 4 with h4 | h4 | h4
  · have hM := rf_md s (pieces s) hw (lo := 0) (hi := 3) (by omega) (by omega)
    have hV : rfV s = (0, 4) := by
      unfold rfV
      generalize pieces s = l at h4
      match l, h4 with
      | [], _ => rfl
      | [_], _ => rfl
      | [_, _], _ => rfl
      | [_, _, _], _ => rfl
      | _ :: _ :: _ :: _ :: _, h => simp only [List.length_cons] at h; omega
    refine (calls_sm (B := ⟨rfE s (pieces s), fun _ => False, w, libβ, 2⟩) (sp := [spSp 46, ctSp]) (fun i => rfl) hsp 10 400 Tryd.func6 rfl rfA _ _ 2 rfl rf_run3 hM (R := fun v w' => v = .tuple #[.int .u32 (rfV s).1, .int .i64 (rfV s).2] ∧ Below w.heap.size w w') ⟨fun _ => rf_must _ _, ?_, trivial⟩ rfl).mono fun e w' h => fin h
    intro _ β w2 hH
    rw [hV]
    exact ⟨rfl, Sy.Only.below_all hH.only⟩
  · have hM := rf_md s (pieces s) hw (lo := 4) (hi := 4) (by omega) (by omega)
    obtain ⟨x0, x1, x2, x3, hx⟩ : ∃ x0 x1 x2 x3, pieces s = [x0, x1, x2, x3] := by
      generalize pieces s = l at h4
      match l, h4 with
      | [x0, x1, x2, x3], _ => exact ⟨x0, x1, x2, x3, rfl⟩
    have hV : rfV s = if cntN x0 255 < 0 ∨ cntN x1 255 < 0 ∨ cntN x2 255 < 0 ∨ cntN x3 255 < 0 then (0, 4) else (256 * (256 * (256 * cntN x0 255 + cntN x1 255) + cntN x2 255) + cntN x3 255, 0) := by
      unfold rfV
      rw [hx]
      rfl
    have sz : ∀ x ∈ pieces s, x.size ≤ 9223372036854775807 := fun x hx => by
      have := splitB_size dot 0 s.size _ s (Nat.le_refl _) x hx
      omega
    rw [hx] at sz hsp hM
    have g : ∀ x ∈ [x0, x1, x2, x3], (getV .str (.string x)).s = x := fun x hx => if_pos (sz x hx)
    have c0 : (den (rfE s [x0, x1, x2, x3]) (rfC 0)).i = cntN x0 255 := by
      show cntN (getV .str (.string x0)).s 255 = _
      rw [g x0 (by simp)]
    have c1 : (den (rfE s [x0, x1, x2, x3]) (rfC 1)).i = cntN x1 255 := by
      show cntN (getV .str (.string x1)).s 255 = _
      rw [g x1 (by simp)]
    have c2 : (den (rfE s [x0, x1, x2, x3]) (rfC 2)).i = cntN x2 255 := by
      show cntN (getV .str (.string x2)).s 255 = _
      rw [g x2 (by simp)]
    have c3 : (den (rfE s [x0, x1, x2, x3]) (rfC 3)).i = cntN x3 255 := by
      show cntN (getV .str (.string x3)).s 255 = _
      rw [g x3 (by simp)]
    refine (calls_sm (B := ⟨rfE s [x0, x1, x2, x3], fun _ => False, w, libβ, 2⟩) (sp := [spSp 46, ctSp]) (fun i => rfl) hsp 10 400 Tryd.func6 rfl rfA _ _ 2 rfl rf_run4 hM (R := fun v w' => v = .tuple #[.int .u32 (rfV s).1, .int .i64 (rfV s).2] ∧ Below w.heap.size w w') ⟨?_, ?_, ?_, ?_, ?_, trivial⟩ rfl).mono fun e w' h => fin h
    all_goals
      intro hpc β w2 hH
      refine ⟨?_, Sy.Only.below_all hH.only⟩
      replace hpc : pcs (rfE s [x0, x1, x2, x3]) _ := hpc
      simp only [pcs, rfB, t_not, t_lt, i_il, and_true] at hpc
      change _ = Value.tuple #[.int .u32 (rfV s).1, .int .i64 (rfV s).2]
      rw [hV]
    all_goals simp only [c0, c1, c2, c3] at hpc
    · rw [if_pos (.inl hpc)]; rfl
    · rw [if_pos (.inr (.inl hpc.1))]; rfl
    · rw [if_pos (.inr (.inr (.inl hpc.1)))]; rfl
    · rw [if_pos (.inr (.inr (.inr hpc.1)))]; rfl
    · rw [if_neg (by omega)]
      show Value.tuple #[.int .u32 (256 * (256 * (256 * (den _ (rfC 0)).i + (den _ (rfC 1)).i) + (den _ (rfC 2)).i) + (den _ (rfC 3)).i), .int .i64 0] = _
      rw [c0, c1, c2, c3]
  · have hM := rf_md s (pieces s) hw (lo := 5) (hi := 140737488355328) (by omega) (by omega)
    have hV : rfV s = (0, 4) := by
      unfold rfV
      generalize pieces s = l at h4
      match l, h4 with
      | [_, _, _, _], h => simp at h
      | [], _ => rfl
      | [_], _ => rfl
      | [_, _], _ => rfl
      | [_, _, _], _ => rfl
      | _ :: _ :: _ :: _ :: _ :: _, _ => rfl
    refine (calls_sm (B := ⟨rfE s (pieces s), fun _ => False, w, libβ, 2⟩) (sp := [spSp 46, ctSp]) (fun i => rfl) hsp 10 400 Tryd.func6 rfl rfA _ _ 2 rfl rf_run5 hM (R := fun v w' => v = .tuple #[.int .u32 (rfV s).1, .int .i64 (rfV s).2] ∧ Below w.heap.size w w') ⟨fun _ => rf_must _ _, ?_, trivial⟩ rfl).mono fun e w' h => fin h
    intro _ β w2 hH
    rw [hV]
    exact ⟨rfl, Sy.Only.below_all hH.only⟩
end Go.Proofs.YtdkgekmjkindmaaDoor
