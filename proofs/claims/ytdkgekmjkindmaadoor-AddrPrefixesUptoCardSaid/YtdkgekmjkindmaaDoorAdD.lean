/- Prefixes printed; the document's PrefixParse. -/
import Derived.Test.YtdkgekmjkindmaaDoorAdA
import Derived.Test.YtdkgekmjkindmaaDoorAdC
namespace Go.Proofs.YtdkgekmjkindmaaDoor
open Go.RowKit Go.Lib Sy
set_option linter.unusedVariables false
set_option linter.unusedSimpArgs false
def ppV (a n : Int) : ByteArray × Int := if chkN a n = 0 then (prS a ++ (slash ++ digS n), 0) else (⟨#[]⟩, chkN a n)
def pxE (a n : Int) : Env := { mkEnv0 [] [] [] [] with i := fun j => if j = 20 then a else if j = 21 then n else 0, f := lwF, o := fun _ => libT }
def pxS : Sy.St := libS [u32B 20, i64B 21] 60
def ppRun (P : Program) (fn : Func) : Rs := run P [pnSp, itSp] 10 400 2 (.code (bodyOf fn)) (enterS fn pfA pxS)
def rqRun (P : Program) (fn : Func) : Rs := run P [anSp, dgSp] 10 400 2 (.code (bodyOf fn)) (enterS fn pfA pxS)
def ppR (s : Tm) (e : Int) : SV := .tup [.c (.str s), .c (.int .i64 (.il e))]
def ppT : Tm := .app (apI 62 (.iv 20)) (.app (.sl [47]) (apI 50 (.iv 21)))
set_option maxRecDepth 100000 in
theorem pp_run : smR Tryd.prog Tryd.f11 2 (ppRun Tryd.prog Tryd.f11) = some [.ret (ppR (.sl []) 1) [libB] [.lt (.il 32) (.iv 21), (.not (.lt (.iv 21) (.il 0)))], .ret (ppR (.sl []) 4) [libB] [.not (.eq (.bop .andNot .u32 (.iv 20) (.md (.mul (.il 4294967295) (.pw (.sub (.il 32) (.iv 21)))) (.il 4294967296))) (.il 0)), (.not (.lt (.il 32) (.iv 21))), (.not (.lt (.iv 21) (.il 0)))], .ret (ppR ppT 0) [libB] [(.eq (.bop .andNot .u32 (.iv 20) (.md (.mul (.il 4294967295) (.pw (.sub (.il 32) (.iv 21)))) (.il 4294967296))) (.il 0)), (.not (.lt (.il 32) (.iv 21))), (.not (.lt (.iv 21) (.il 0)))], .ret (ppR (.sl []) 1) [libB] [.lt (.iv 21) (.il 0)]] := by kernel_rfl
set_option maxRecDepth 100000 in
theorem rq_run : smR Tryd.prog Tryd.f12 2 (rqRun Tryd.prog Tryd.f12) = some [.ret (ppR (.sl []) 1) [libB] [.lt (.il 32) (.iv 21), (.not (.lt (.iv 21) (.il 0)))], .ret (ppR (.sl []) 4) [libB] [.not (.eq (.md (.iv 20) (.pw (.sub (.il 32) (.iv 21)))) (.il 0)), (.not (.lt (.il 32) (.iv 21))), (.not (.lt (.iv 21) (.il 0)))], .ret (ppR ppT 0) [libB] [(.eq (.md (.iv 20) (.pw (.sub (.il 32) (.iv 21)))) (.il 0)), (.not (.lt (.il 32) (.iv 21))), (.not (.lt (.iv 21) (.il 0)))], .ret (ppR (.sl []) 1) [libB] [.lt (.iv 21) (.il 0)]] := by kernel_rfl
theorem px_md {a n : Int} (a0 : 0 ≤ a) (a1 : a ≤ 4294967295) (n0 : -9223372036854775808 ≤ n) (n1 : n ≤ 9223372036854775807) {w : World} (hw : LibW w) : Md (pxE a n) (fun _ => False) w libβ 2 pxS libβ ⟨#[], []⟩ w :=
  lib_md (ρ := pxE a n) (bs := [u32B 20, i64B 21]) rfl hw (cxP ⟨⟨a0, a1⟩, ⟨n0, n1⟩, trivial⟩ trivial) 60
theorem pp_calls {a n : Int} (a0 : 0 ≤ a) (a1 : a ≤ 4294967295) (n0 : -9223372036854775808 ≤ n) (n1 : n ≤ 9223372036854775807) {w : World} (hw : LibW w) : Calls Tryd.prog 11 #[pfV a n] w fun e w' => e = .returned (.tuple #[.string (ppV a n).1, .int .i64 (ppV a n).2]) ∧ Below w.heap.size w w' := by
  refine (calls_sm (B := ⟨pxE a n, fun _ => False, w, libβ, 2⟩) (sp := [pnSp, itSp]) (fun i => rfl) ?_ 10 400 Tryd.func11 rfl pfA pxS _ 2 rfl pp_run (px_md a0 a1 n0 n1 hw) (R := fun v w' => v = .tuple #[.string (ppV a n).1, .int .i64 (ppV a n).2] ∧ Below w.heap.size w w') ⟨?_, ?_, ?_, ?_, trivial⟩ rfl).mono ?_
  · intro q hq
    simp only [List.mem_cons, List.not_mem_nil, or_false] at hq
    rcases hq with rfl | rfl
    · exact pnSp_ok rfl fun _ _ _ => rfl
    · exact itSp_ok rfl fun _ _ _ => rfl
  rotate_right
  · rintro e w' ⟨v, rfl, rfl, hb⟩
    exact ⟨rfl, hb⟩
  all_goals
    intro hpc β w2 hH
    refine ⟨?_, Sy.Only.below_all hH.only⟩
    replace hpc : pcs (pxE a n) _ := hpc
    simp only [pcs, t_lt, t_le, t_eq, t_not, i_iv, i_il, and_true] at hpc
    change _ = Value.tuple #[.string (ppV a n).1, .int .i64 (ppV a n).2]
    unfold ppV
  · change 32 < n ∧ ¬ n < 0 at hpc
    rw [show chkN a n = 1 from if_pos (by omega)]; rfl
  · obtain ⟨q0, q1, q2⟩ := hpc
    change ¬ 32 < n at q1
    change ¬ n < 0 at q2
    change ¬ bits .andNot .u32 a (4294967295 * 2 ^ (32 - n).toNat % 4294967296) = 0 at q0
    rw [bmask (by omega) a0 a1, wid_of (by omega) (by omega)] at q0
    rw [show chkN a n = 4 from (if_neg (by omega)).trans (if_neg q0)]; rfl
  · obtain ⟨q0, q1, q2⟩ := hpc
    change ¬ 32 < n at q1
    change ¬ n < 0 at q2
    change bits .andNot .u32 a (4294967295 * 2 ^ (32 - n).toNat % 4294967296) = 0 at q0
    rw [bmask (by omega) a0 a1, wid_of (by omega) (by omega)] at q0
    rw [show chkN a n = 0 from (if_neg (by omega)).trans (if_pos q0)]; rfl
  · change n < 0 at hpc
    rw [show chkN a n = 1 from if_pos (by omega)]; rfl
theorem rq_calls {a n : Int} (a0 : 0 ≤ a) (a1 : a ≤ 4294967295) (n0 : -9223372036854775808 ≤ n) (n1 : n ≤ 9223372036854775807) {w : World} (hw : LibW w) : Calls Tryd.prog 12 #[pfV a n] w fun e w' => e = .returned (.tuple #[.string (ppV a n).1, .int .i64 (ppV a n).2]) ∧ Below w.heap.size w w' := by
  refine (calls_sm (B := ⟨pxE a n, fun _ => False, w, libβ, 2⟩) (sp := [anSp, dgSp]) (fun i => rfl) ?_ 10 400 Tryd.func12 rfl pfA pxS _ 2 rfl rq_run (px_md a0 a1 n0 n1 hw) (R := fun v w' => v = .tuple #[.string (ppV a n).1, .int .i64 (ppV a n).2] ∧ Below w.heap.size w w') ⟨?_, ?_, ?_, ?_, trivial⟩ rfl).mono ?_
  · intro q hq
    simp only [List.mem_cons, List.not_mem_nil, or_false] at hq
    rcases hq with rfl | rfl
    · exact anSp_ok rfl fun _ _ _ => rfl
    · exact dgSp_ok rfl fun _ _ _ => rfl
  rotate_right
  · rintro e w' ⟨v, rfl, rfl, hb⟩
    exact ⟨rfl, hb⟩
  all_goals
    intro hpc β w2 hH
    refine ⟨?_, Sy.Only.below_all hH.only⟩
    replace hpc : pcs (pxE a n) _ := hpc
    simp only [pcs, t_lt, t_le, t_eq, t_not, i_iv, i_il, and_true] at hpc
    change _ = Value.tuple #[.string (ppV a n).1, .int .i64 (ppV a n).2]
    unfold ppV
  · change 32 < n ∧ ¬ n < 0 at hpc
    rw [show chkN a n = 1 from if_pos (by omega)]; rfl
  · obtain ⟨q0, q1, q2⟩ := hpc
    change ¬ 32 < n at q1
    change ¬ n < 0 at q2
    change ¬ a % 2 ^ (32 - n).toNat = 0 at q0
    rw [wid_of (by omega) (by omega)] at q0
    rw [show chkN a n = 4 from (if_neg (by omega)).trans (if_neg q0)]; rfl
  · obtain ⟨q0, q1, q2⟩ := hpc
    change ¬ 32 < n at q1
    change ¬ n < 0 at q2
    change a % 2 ^ (32 - n).toNat = 0 at q0
    rw [wid_of (by omega) (by omega)] at q0
    rw [show chkN a n = 0 from (if_neg (by omega)).trans (if_pos q0)]; rfl
  · change n < 0 at hpc
    rw [show chkN a n = 1 from if_pos (by omega)]; rfl
/-! The document's PrefixParse. -/
/-- Address, bits, error. -/
def qfL (l : List ByteArray) : (Int × Int) × Int := match l with
  | [x, y] => if (rfV x).2 = 0 ∧ 0 ≤ cntN y 32 ∧ chkN (rfV x).1 (cntN y 32) = 0 then (((rfV x).1, cntN y 32), 0) else ((0, 0), 4)
  | _ => ((0, 0), 4)
def qfV (s : ByteArray) : (Int × Int) × Int := qfL (splitD 47 s)
def qxF : Nat → Dn → Dn → Dn → Dn := fun n x y z => match n with
  | 54 => dI (cntN x.s y.i)
  | 60 => dI (rfV x.s).1
  | 61 => dI (rfV x.s).2
  | _ => x
def qxE (s : ByteArray) (l : List ByteArray) : Env := { rfE s l with f := qxF }
def qx0 : Tm := .tb (.get .str 0) (.cv 41) (.il 0) (.il 0)
def qx1 : Tm := .tb (.get .str 0) (.cv 41) (.il 1) (.il 0)
def qxS (lo hi : Int) : Sy.St := libS [⟨.iv 41, lo, hi⟩, ⟨tlen (.cv 41), lo, hi⟩, ⟨.len qx0, 0, 4294967280⟩] 60
def qxRun (P : Program) (fn : Func) (lo hi : Int) : Rs := run P [spSp 47, rpSp, ctSp] 10 400 2 (.code (bodyOf fn)) (enterS fn rfA (qxS lo hi))
def qxN : SV := .tup [.agg [.int .u32 (.il 0), .int .i64 (.il 0)], .c (.int .i64 (.il 4))]
def qxC : Tm := .ap 54 qx1 (.il 32) (.il 0)
def qxY : SV := .tup [.agg [.int .u32 (apI 60 qx0), .int .i64 qxC], .c (.int .i64 (.il 0))]
def qxM : Tm := .eq (.md (apI 60 qx0) (.pw (.sub (.il 32) qxC))) (.il 0)
def qxZ : Tm := .eq (apI 61 qx0) (.il 0)
set_option maxRecDepth 100000 in
theorem qx_run2 : smR Tryd.prog Tryd.f10 2 (qxRun Tryd.prog Tryd.f10 2 2) = some [.ret qxN [libB] [.lt (.il 32) qxC, .not (.lt qxC (.il 0)), qxZ], .ret qxN [libB] [.not qxM, .not (.lt (.il 32) qxC), .not (.lt qxC (.il 0)), qxZ], .ret qxY [libB] [qxM, .not (.lt (.il 32) qxC), .not (.lt qxC (.il 0)), qxZ], .ret qxN [libB] [.lt qxC (.il 0), qxZ], .ret qxN [libB] [.not qxZ]] := by kernel_rfl
set_option maxRecDepth 100000 in
theorem qx_run3 : smR Tryd.prog Tryd.f10 2 (qxRun Tryd.prog Tryd.f10 3 140737488355328) = some [.must (.le (.iv 41) (tlen (.cv 41))) [], .ret qxN [libB] [.le (.iv 41) (tlen (.cv 41))]] := by kernel_rfl
set_option maxRecDepth 100000 in
theorem qx_run1 : smR Tryd.prog Tryd.f10 2 (qxRun Tryd.prog Tryd.f10 0 1) = some [.must (.le (.iv 41) (tlen (.cv 41))) [], .ret qxN [libB] [.le (.iv 41) (tlen (.cv 41))]] := by kernel_rfl
theorem qx_md (s : ByteArray) (l : List ByteArray) {w : World} (hw : LibW w) {lo hi : Int} (h0 : lo ≤ (l.length : Int)) (h1 : (l.length : Int) ≤ hi) (hz : ∀ x ∈ l, x.size ≤ 4294967280) : Md (qxE s l) (fun _ => False) w libβ 2 (qxS lo hi) libβ ⟨#[], []⟩ w := by
  refine lib_md (ρ := qxE s l) (bs := [⟨.iv 41, lo, hi⟩, ⟨tlen (.cv 41), lo, hi⟩, ⟨.len qx0, 0, 4294967280⟩]) rfl hw (cxP ⟨⟨h0, h1⟩, ⟨by show lo ≤ (((rowsS l).length : Nat) : Int); rw [rowsS, List.length_map]; exact h0, by show (((rowsS l).length : Nat) : Int) ≤ hi; rw [rowsS, List.length_map]; exact h1⟩, ⟨Int.natCast_nonneg _, ?_⟩, trivial⟩ trivial) 60
  show ((getV .str (((rowsS l).getD 0 []).getD 0 (.bool false))).s.size : Int) ≤ 4294967280
  match l, hz with
  | [], _ => decide
  | x :: l, hz =>
    show (((if x.size ≤ 9223372036854775807 then x else none8 : ByteArray).size : Nat) : Int) ≤ 4294967280
    have := hz x (List.mem_cons_self ..)
    rw [if_pos (by omega)]
    omega
theorem qx_sp (s : ByteArray) (hz : s.size < 4294967281) : ∀ q ∈ [spSp 47, rpSp, ctSp], q.Ok Tryd.prog (qxE s (splitD 47 s)) := by
  intro q hq
  simp only [List.mem_cons, List.not_mem_nil, or_false] at hq
  rcases hq with rfl | rfl | rfl
  · exact spSp_ok (s := s) rfl rfl hz rfl rfl
  · exact rpSp_ok rfl (fun _ _ _ => rfl) fun _ _ _ => rfl
  · exact ctSp_ok rfl fun _ _ _ => rfl
theorem qx_must (s : ByteArray) (l : List ByteArray) : (den (qxE s l) (.le (.iv 41) (tlen (.cv 41)))).b = true := by
  rw [t_le]
  show (l.length : Int) ≤ (((rowsS l).length : Nat) : Int)
  rw [rowsS, List.length_map]
  exact Int.le_refl _
def qfR (p : (Int × Int) × Int) : Value := .tuple #[pfV p.1.1 p.1.2, .int .i64 p.2]
theorem qf_calls (s : ByteArray) (hz : s.size < 4294967281) {w : World} (hw : LibW w) : Calls Tryd.prog 10 #[.string s] w fun e w' => e = .returned (qfR (qfV s)) ∧ Below w.heap.size w w' := by
  have hlen : (splitD 47 s).length = countB s (sepB 47) + 1 := splitB_all (sepB 47) (Nat.le_refl 1) 0 _ s rfl
  have hle := countB_le (sepB 47) (Nat.le_refl 1) s.size s (Nat.le_refl _)
  have hsp := qx_sp s hz
  have sz : ∀ x ∈ splitD 47 s, x.size ≤ 4294967280 := fun x hx => by
    have := splitB_size (sepB 47) 0 s.size _ s (Nat.le_refl _) x hx
    omega
  have fin : ∀ {e w'}, (∃ v, e = Ending.returned v ∧ v = qfR (qfV s) ∧ Below w.heap.size w w') → e = .returned (qfR (qfV s)) ∧ Below w.heap.size w w' := by
    rintro e w' ⟨v, rfl, rfl, hb⟩
    exact ⟨rfl, hb⟩
  rcases Nat.lt_trichotomy (splitD 47 s).length 2 with h4 | h4 | h4
  · have hM := qx_md s (splitD 47 s) hw (lo := 0) (hi := 1) (by omega) (by omega) sz
    have hV : qfV s = ((0, 0), 4) := by
      unfold qfV
      generalize splitD 47 s = l at h4
      match l, h4 with
      | [], _ => rfl
      | [_], _ => rfl
      | _ :: _ :: _, h => simp only [List.length_cons] at h; omega
    refine (calls_sm (B := ⟨qxE s (splitD 47 s), fun _ => False, w, libβ, 2⟩) (sp := [spSp 47, rpSp, ctSp]) (fun i => rfl) hsp 10 400 Tryd.func10 rfl rfA _ _ 2 rfl qx_run1 hM (R := fun v w' => v = qfR (qfV s) ∧ Below w.heap.size w w') ⟨fun _ => qx_must _ _, ?_, trivial⟩ rfl).mono fun e w' h => fin h
    intro _ β w2 hH
    rw [hV]
    exact ⟨rfl, Sy.Only.below_all hH.only⟩
  · have hM := qx_md s (splitD 47 s) hw (lo := 2) (hi := 2) (by omega) (by omega) sz
    obtain ⟨x, y, hx⟩ : ∃ x y, splitD 47 s = [x, y] := by
      generalize splitD 47 s = l at h4
      match l, h4 with
      | [x, y], _ => exact ⟨x, y, rfl⟩
    have hV : qfV s = if (rfV x).2 = 0 ∧ 0 ≤ cntN y 32 ∧ chkN (rfV x).1 (cntN y 32) = 0 then (((rfV x).1, cntN y 32), 0) else ((0, 0), 4) := by
      unfold qfV
      rw [hx]
      rfl
    rw [hx] at sz hsp hM
    have g : ∀ z ∈ [x, y], (getV .str (.string z)).s = z := fun z hz => if_pos (by have := sz z hz; omega)
    have c0 : (den (qxE s [x, y]) (apI 60 qx0)).i = (rfV x).1 := by
      show (rfV (getV .str (.string x)).s).1 = _
      rw [g x (by simp)]
    have c1 : (den (qxE s [x, y]) (apI 61 qx0)).i = (rfV x).2 := by
      show (rfV (getV .str (.string x)).s).2 = _
      rw [g x (by simp)]
    have c2 : (den (qxE s [x, y]) qxC).i = cntN y 32 := by
      show cntN (getV .str (.string y)).s 32 = _
      rw [g y (by simp)]
    have cm : (den (qxE s [x, y]) qxM).b = decide ((rfV x).1 % 2 ^ (32 - cntN y 32).toNat = 0) := by
      show decide ((den (qxE s [x, y]) (apI 60 qx0)).i % 2 ^ (32 - (den (qxE s [x, y]) qxC).i).toNat = 0) = _
      rw [c0, c2]
    refine (calls_sm (B := ⟨qxE s [x, y], fun _ => False, w, libβ, 2⟩) (sp := [spSp 47, rpSp, ctSp]) (fun i => rfl) hsp 10 400 Tryd.func10 rfl rfA _ _ 2 rfl qx_run2 hM (R := fun v w' => v = qfR (qfV s) ∧ Below w.heap.size w w') ⟨?_, ?_, ?_, ?_, ?_, trivial⟩ rfl).mono fun e w' h => fin h
    all_goals
      intro hpc β w2 hH
      refine ⟨?_, Sy.Only.below_all hH.only⟩
      replace hpc : pcs (qxE s [x, y]) _ := hpc
      simp only [pcs, t_not, qxZ, t_lt, t_eq, i_il, and_true, c1, c2, cm, decide_eq_true_eq] at hpc
      change _ = qfR (qfV s)
      rw [hV]
    · obtain ⟨h1, h2, h3⟩ := hpc
      rw [if_neg (fun q => by have := chk_0 q.2.2; omega)]; rfl
    · obtain ⟨h0, h1, h2, h3⟩ := hpc
      rw [wid_of (by omega) (by omega)] at h0
      rw [if_neg (fun q => h0 (chk_0 q.2.2).2.2)]; rfl
    · obtain ⟨h0, h1, h2, h3⟩ := hpc
      rw [wid_of (by omega) (by omega)] at h0
      rw [if_pos ⟨h3, by omega, (if_neg (by omega)).trans (if_pos h0)⟩]
      show Value.tuple #[.agg #[.int .u32 (den _ (apI 60 qx0)).i, .int .i64 (den _ qxC).i], .int .i64 0] = _
      rw [c0, c2]
      rfl
    · obtain ⟨h1, h2⟩ := hpc
      rw [if_neg (fun q => by omega)]; rfl
    · rw [if_neg (fun q => hpc q.1)]; rfl
  · have hM := qx_md s (splitD 47 s) hw (lo := 3) (hi := 140737488355328) (by omega) (by omega) sz
    have hV : qfV s = ((0, 0), 4) := by
      unfold qfV
      generalize splitD 47 s = l at h4
      match l, h4 with
      | [], _ => rfl
      | [_], _ => rfl
      | [_, _], h => simp at h
      | _ :: _ :: _ :: _, _ => rfl
    refine (calls_sm (B := ⟨qxE s (splitD 47 s), fun _ => False, w, libβ, 2⟩) (sp := [spSp 47, rpSp, ctSp]) (fun i => rfl) hsp 10 400 Tryd.func10 rfl rfA _ _ 2 rfl qx_run3 hM (R := fun v w' => v = qfR (qfV s) ∧ Below w.heap.size w w') ⟨fun _ => qx_must _ _, ?_, trivial⟩ rfl).mono fun e w' h => fin h
    intro _ β w2 hH
    rw [hV]
    exact ⟨rfl, Sy.Only.below_all hH.only⟩
end Go.Proofs.YtdkgekmjkindmaaDoor
