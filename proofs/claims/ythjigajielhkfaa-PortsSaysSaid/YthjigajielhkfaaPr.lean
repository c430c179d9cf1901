/- Drop of the reference's ports. Printed by gen_pr.py. -/
import Derived.Test.YthjigajielhkfaaPf
namespace Go.Proofs.Ythjigajielhkfaa
open Go.RowKit Sy
set_option linter.unusedVariables false
set_option linter.unusedSimpArgs false

def drP : List Nat := [1, 1, 0, 1, 2]
def drA : List SV := [.one (.c (.ptr 0 0)), .one (.c (.int .i64 (.iv 26)))]
def drOb : Bk := ⟨0, 147, [bdSl], true, none, .no⟩
def drSt : Sy.St := ⟨[], [drOb, bdTb], ⟨bdBs, []⟩, 50⟩
def dr0 (P : Program) (fn : Func) : Rs := run P [] 10 400 50 (.code (pre drP (bodyOf fn))) (enterS fn drA drSt)
def drS (P : Program) (fn : Func) : Sy.St := tabSlot (lfAt (dr0 P fn) 0) 5 60 50 bdLv
def drTb : Bk := ⟨60, 50, [], true, none, .tab bdLv (.cv 1)⟩
def drCx : Cx := ⟨⟨.iv 0, 0, 4000⟩ :: ⟨.iv 1, 0, 4000⟩ :: ⟨tlen (.cv 1), 0, 4000⟩ :: bdBs, [.le (.iv 0) (tlen (.cv 0)), .le (.iv 1) (tlen (.cv 1)), .le (tlen (.cv 1)) (.iv 1)]⟩
def drT (P : Program) (fn : Func) : Sy.St := tplS (drS P fn) (lpBody (Sy.sub drP (bodyOf fn))) [(13, .one (.c (.int .i64 (.iv 0)))), (5, .one (.c (.slt 60 7 (.il 0) (.iv 1) (.il 0))))] [drTb] drCx 70
def dr1 (P : Program) (fn : Func) : Rs := run P [] 10 400 50 (.code (lpBody (Sy.sub drP (bodyOf fn)))) (drT P fn)
set_option maxRecDepth 100000 in
theorem dr_run0 : shR 50 none (dr0 Try.prog Try.f115) = some 
    [(.out 0 .normal [])] := by kernel_rfl
set_option maxRecDepth 100000 in
theorem dr_match : (matchS 50 (drT Try.prog Try.f115) (drS Try.prog Try.f115)).map noU = some [.i 1 (.il 0), .i 0 (.il 0), .c 1 tn] := by kernel_rfl
set_option maxRecDepth 100000 in
theorem dr_free : ((lfAt (dr0 Try.prog Try.f115) 0).free 60, (lfAt (dr0 Try.prog Try.f115) 0).free 61) = (true, true) := by kernel_rfl
set_option maxRecDepth 100000 in
theorem dr_loop : Code.loop (lpBody (Sy.sub drP (bodyOf Try.f115))) = Sy.sub drP (bodyOf Try.f115) := by kernel_rfl
set_option maxRecDepth 100000 in
theorem dr_run1 : shR 50 (some (drT Try.prog Try.f115)) (dr1 Try.prog Try.f115) = some 
    [(.back [(.i 1 (.add (.tb .len (.cv 1) (.il 0) (.il 0)) (.il 1))), (.i 0 (.add (.iv 0) (.il 1))), (.c 1 (.tb .app (.cv 1) (.tb (.cons (.int .i64)) (.tb (.get (.int .i64) 0) (.cv 0) (.iv 0) (.il 0)) (.tb (.cons (.int .u32)) (.tb (.get (.int .u32) 1) (.cv 0) (.iv 0) (.il 0)) (.tb (.cons (.int .i64)) (.tb (.get (.int .i64) 2) (.cv 0) (.iv 0) (.il 0)) (.tb (.cons (.int .u32)) (.tb (.get (.int .u32) 3) (.cv 0) (.iv 0) (.il 0)) (.tb (.cons (.int .i64)) (.tb (.get (.int .i64) 4) (.cv 0) (.iv 0) (.il 0)) (.tb (.cons .bool) (.tb (.get .bool 5) (.cv 0) (.iv 0) (.il 0)) (.tb (.cons (.int .i64)) (.tb (.get (.int .i64) 6) (.cv 0) (.iv 0) (.il 0)) (.tb .row (.il 0) (.il 0) (.il 0)) (.il 0)) (.il 0)) (.il 0)) (.il 0)) (.il 0)) (.il 0)) (.il 0)) (.il 0)))] [(.not (.eq (.tb (.get (.int .i64) 6) (.cv 0) (.iv 0) (.il 0)) (.iv 26))), (.lt (.iv 0) (.tb .len (.cv 0) (.il 0) (.il 0))), (.le (.iv 0) (.tb .len (.cv 0) (.il 0) (.il 0))), (.le (.iv 1) (.tb .len (.cv 1) (.il 0) (.il 0))), (.le (.tb .len (.cv 1) (.il 0) (.il 0)) (.iv 1))]),
    (.back [(.i 0 (.add (.iv 0) (.il 1)))] [(.eq (.tb (.get (.int .i64) 6) (.cv 0) (.iv 0) (.il 0)) (.iv 26)), (.lt (.iv 0) (.tb .len (.cv 0) (.il 0) (.il 0))), (.le (.iv 0) (.tb .len (.cv 0) (.il 0) (.il 0))), (.le (.iv 1) (.tb .len (.cv 1) (.il 0) (.il 0))), (.le (.tb .len (.cv 1) (.il 0) (.il 0)) (.iv 1))]),
    (.out 2 (.exit 0) [(.not (.lt (.iv 0) (.tb .len (.cv 0) (.il 0) (.il 0)))), (.le (.iv 0) (.tb .len (.cv 0) (.il 0) (.il 0))), (.le (.iv 1) (.tb .len (.cv 1) (.il 0) (.il 0))), (.le (.tb .len (.cv 1) (.il 0) (.il 0)) (.iv 1))])] := by kernel_rfl
set_option maxRecDepth 100000 in
theorem dr_fin : smR Try.prog Try.f115 50 (run Try.prog [] 10 400 50 (.code (aft (.exit 0) drP (bodyOf Try.f115))) (lfAt (dr1 Try.prog Try.f115) 2)) = some 
    [(.ret (.one (.c (.int .i64 (.il 7)))) [⟨0, 147, [(.slt 40 7 (.il 0) (.tb .len (.cv 0) (.il 0) (.il 0)) (.il 0))], true, .none, .no⟩, ⟨40, 50, [], false, .none, (.tab [(.int .i64), (.int .u32), (.int .i64), (.int .u32), (.int .i64), .bool, (.int .i64)] (.cv 0))⟩] [(.eq (.iv 1) (.tb .len (.cv 0) (.il 0) (.il 0))), (.not (.lt (.iv 0) (.tb .len (.cv 0) (.il 0) (.il 0)))), (.le (.iv 0) (.tb .len (.cv 0) (.il 0) (.il 0))), (.le (.iv 1) (.tb .len (.cv 1) (.il 0) (.il 0))), (.le (.tb .len (.cv 1) (.il 0) (.il 0)) (.iv 1))]),
    (.ret (.one (.c (.int .i64 (.il 0)))) [⟨0, 147, [(.slt 60 7 (.il 0) (.iv 1) (.il 0))], true, .none, .no⟩, ⟨60, 50, [], true, .none, (.tab [(.int .i64), (.int .u32), (.int .i64), (.int .u32), (.int .i64), .bool, (.int .i64)] (.cv 1))⟩, ⟨40, 50, [], false, .none, (.tab [(.int .i64), (.int .u32), (.int .i64), (.int .u32), (.int .i64), .bool, (.int .i64)] (.cv 0))⟩] [(.not (.eq (.iv 1) (.tb .len (.cv 0) (.il 0) (.il 0)))), (.not (.lt (.iv 0) (.tb .len (.cv 0) (.il 0) (.il 0)))), (.le (.iv 0) (.tb .len (.cv 0) (.il 0) (.il 0))), (.le (.iv 1) (.tb .len (.cv 1) (.il 0) (.il 0))), (.le (.tb .len (.cv 1) (.il 0) (.il 0)) (.iv 1))])] := by kernel_rfl
structure DrI (rows : List (List Value)) (o : Int) (ρ : Env) : Prop where
  g : ρ.good
  i : ∀ n, n ≠ 0 → n ≠ 1 → ρ.i n = (owEnv plF rows o).i n
  c0 : ρ.c 0 = rows
  j0 : 0 ≤ ρ.i 0
  jn : ρ.i 0 ≤ (rows.length : Int)
  c1 : ρ.c 1 = kept o (rows.take (ρ.i 0).toNat)
  i1 : ρ.i 1 = ((ρ.c 1).length : Int)
theorem DrI.cx {rows : List (List Value)} {o : Int} (hn : rows.length ≤ 4000) {ρ : Env} (I : DrI rows o ρ) : drCx.ok ρ := by
  have j0 := I.j0
  have jn := I.jn
  have i1 := I.i1
  have c0 : (ρ.c 0).length = rows.length := by rw [I.c0]
  have h6 := wrap_bd .i64 o
  have hc1 : (ρ.c 1).length ≤ rows.length := by
    rw [I.c1]
    refine Nat.le_trans (List.length_filter_le ..) ?_
    rw [List.length_take]
    omega
  refine ⟨fun x hx => ?_, fun t ht => ?_⟩
  · change x ∈ [_, _, _, _, _, _, _, _, _, _] at hx
    simp only [List.mem_cons, List.not_mem_nil, or_false] at hx
    rcases hx with rfl | rfl | rfl | rfl | rfl | rfl | rfl | rfl | rfl | rfl
    · show (0 : Int) ≤ ρ.i 0 ∧ ρ.i 0 ≤ 4000
      omega
    · show (0 : Int) ≤ ρ.i 1 ∧ ρ.i 1 ≤ 4000
      omega
    · show (0 : Int) ≤ (((ρ.c 1).length : Nat) : Int) ∧ (((ρ.c 1).length : Nat) : Int) ≤ 4000
      omega
    · show (0 : Int) ≤ (((ρ.c 0).length : Nat) : Int) ∧ (((ρ.c 0).length : Nat) : Int) ≤ 4000
      omega
    · show _ ≤ ρ.i 20 ∧ ρ.i 20 ≤ _
      rw [I.i 20 (by decide) (by decide)]
      exact (show (-9223372036854775808 : Int) ≤ 0 ∧ (0 : Int) ≤ 9223372036854775807 from ⟨by decide, by decide⟩)
    · show _ ≤ ρ.i 21 ∧ ρ.i 21 ≤ _
      rw [I.i 21 (by decide) (by decide)]
      exact (show (0 : Int) ≤ 0 ∧ (0 : Int) ≤ 4294967295 from ⟨by decide, by decide⟩)
    · show _ ≤ ρ.i 22 ∧ ρ.i 22 ≤ _
      rw [I.i 22 (by decide) (by decide)]
      exact (show (-9223372036854775808 : Int) ≤ 0 ∧ (0 : Int) ≤ 9223372036854775807 from ⟨by decide, by decide⟩)
    · show _ ≤ ρ.i 23 ∧ ρ.i 23 ≤ _
      rw [I.i 23 (by decide) (by decide)]
      exact (show (0 : Int) ≤ 0 ∧ (0 : Int) ≤ 4294967295 from ⟨by decide, by decide⟩)
    · show _ ≤ ρ.i 24 ∧ ρ.i 24 ≤ _
      rw [I.i 24 (by decide) (by decide)]
      exact (show (-9223372036854775808 : Int) ≤ 0 ∧ (0 : Int) ≤ 9223372036854775807 from ⟨by decide, by decide⟩)
    · show _ ≤ ρ.i 26 ∧ ρ.i 26 ≤ _
      rw [I.i 26 (by decide) (by decide)]
      exact h6
  · change t ∈ [_, _, _] at ht
    simp only [List.mem_cons, List.not_mem_nil, or_false] at ht
    rcases ht with rfl | rfl | rfl
    · rw [t_le]; show ρ.i 0 ≤ (((ρ.c 0).length : Nat) : Int); omega
    · rw [t_le]; show ρ.i 1 ≤ (((ρ.c 1).length : Nat) : Int); omega
    · rw [t_le]; show (((ρ.c 1).length : Nat) : Int) ≤ ρ.i 1; omega
set_option maxRecDepth 100000 in
set_option maxHeartbeats 1000000 in
theorem rdrop_runs : DropRuns Try.prog 115 147 := by
  intro w g0 g c rows o hB hT hn hne ho
  have hself : But0 (owEnv plF rows o) (owEnv plF rows o) := ⟨fun _ _ => rfl, rfl, rfl, rfl, rfl, rfl⟩
  have hM0 : Md (owEnv plF rows o) (· = g0) w (ixB g c g0) 50 drSt (ixB g c g0) ⟨#[], []⟩ w := by
    refine ⟨rfl, fun x hx => ?_, fun x hx y hy hxy hrx hry => ?_, fun x hx hw _ => ?_, ⟨ow_bs hn hself, fun t ht => by cases ht⟩, Only.refl _ _, fun _ _ => rfl⟩
    · change x ∈ [_, _] at hx
      simp only [List.mem_cons, List.not_mem_nil, or_false] at hx
      rcases hx with rfl | rfl
      · show Blk w g0 _ [sltZ g c 7 0 rows.length 0]
        rw [sltZ_zero]
        exact hB
      · exact hT
    · change x ∈ [_, _] at hx
      change y ∈ [_, _] at hy
      simp only [List.mem_cons, List.not_mem_nil, or_false] at hx hy
      rcases hx with rfl | rfl <;> rcases hy with rfl | rfl
      · exact absurd rfl hxy
      · exact hne (hry.resolve_left (by simp [bdTb, Bk.nilable, Xt.isTab]))
      · exact (hne (hrx.resolve_left (by simp [bdTb, Bk.nilable, Xt.isTab]))).symm
      · exact absurd rfl hxy
    · change x ∈ [_, _] at hx
      simp only [List.mem_cons, List.not_mem_nil, or_false] at hx
      rcases hx with rfl | rfl
      · exact .inl rfl
      · cases hw
  have hargs : (#[.pointer (some ⟨g0, 0, none⟩), .int .i64 o] : Array Value) = (drA.map (SV.den (owEnv plF rows o) (ixB g c g0))).toArray := by
    show _ = (#[_, .int .i64 (IntKind.i64.wrap o)] : Array Value)
    rw [ho]
    rfl
  refine calls_pre (B := ⟨owEnv plF rows o, (· = g0), w, ixB g c g0, 50⟩) (sp := []) (p := drP) (xs := drA) (s := drSt) (r := dr0 Try.prog Try.f115) (fun i => rfl) (fun q hq => by cases hq) rfl Try.func115 rfl rfl dr_run0 hM0 ?_ hargs
  refine ⟨?_, trivial⟩
  intro hpc β a w1 hM1
  show (Sy.sub drP (bodyOf Try.f115)).wp Try.prog _ a w1
  rw [← dr_loop]
  obtain ⟨fr1, fr2⟩ := Prod.mk.inj dr_free
  obtain ⟨β1, hM2⟩ := Sy.Md.tabSlot hM1 5 60 50 bdLv (show 50 ≤ 60 by decide) fr1 fr2
  have hI1 : ∀ u, DrI rows o { (owEnv plF rows o).sub β1 [.i 1 (.il 0), .i 0 (.il 0), .c 1 tn] with u := u } := fun u => by
    refine ⟨fun i => rfl, fun n h0 h1 => ?_, rfl, Int.le_refl 0, show (0 : Int) ≤ _ by omega, ?_, rfl⟩
    · match n with
      | 0 => exact absurd rfl h0
      | 1 => exact absurd rfl h1
      | n + 2 => rfl
    · show [] = kept o (rows.take (0 : Int).toNat)
      rfl
  obtain ⟨u, β', hM3⟩ := Sy.Md.enter hM2 dr_match fun u => (hI1 u).cx hn
  refine loop_wp (w0 := w) (r := dr1 Try.prog Try.f115) rfl dr_run1 (DrI rows o) (fun ρ => rows.length - (ρ.i 0).toNat) (fun ρ I => I.g) (fun ρ I q hq => by cases hq) (fun ρ I => I.cx hn) ?_ (hI1 u) hM3
  intro ρ I
  have j0 := I.j0
  have jn := I.jn
  have c0 := I.c0
  have i1 := I.i1
  have h26 : ρ.i 26 = o := (I.i 26 (by decide) (by decide)).trans ho
  refine ⟨?_, ?_, ?_, trivial⟩
  all_goals
    intro hpc
    replace hpc : pcs ρ _ := hpc
    simp only [pcs, t_lt, t_le, t_eq, t_not, i_iv, i_il, i_tl, i_get, c_cv, c0, gI_def, h26, and_true] at hpc
  · intro β u
    have hj : (ρ.i 0).toNat < rows.length := by omega
    have hk := hT.ok _ (getD_mem hj)
    have hno : owF o (rows.getD (ρ.i 0).toNat []) = false := by
      unfold owF
      simp only [decide_eq_false_iff_not]
      exact hpc.1
    have et : (ρ.i 0 + 1).toNat = (ρ.i 0).toNat + 1 := by omega
    have hc1 : ({ ρ.sub β [(.i 1 (.add (.tb .len (.cv 1) (.il 0) (.il 0)) (.il 1))), (.i 0 (.add (.iv 0) (.il 1))), (.c 1 (.tb .app (.cv 1) (.tb (.cons (.int .i64)) (.tb (.get (.int .i64) 0) (.cv 0) (.iv 0) (.il 0)) (.tb (.cons (.int .u32)) (.tb (.get (.int .u32) 1) (.cv 0) (.iv 0) (.il 0)) (.tb (.cons (.int .i64)) (.tb (.get (.int .i64) 2) (.cv 0) (.iv 0) (.il 0)) (.tb (.cons (.int .u32)) (.tb (.get (.int .u32) 3) (.cv 0) (.iv 0) (.il 0)) (.tb (.cons (.int .i64)) (.tb (.get (.int .i64) 4) (.cv 0) (.iv 0) (.il 0)) (.tb (.cons .bool) (.tb (.get .bool 5) (.cv 0) (.iv 0) (.il 0)) (.tb (.cons (.int .i64)) (.tb (.get (.int .i64) 6) (.cv 0) (.iv 0) (.il 0)) (.tb .row (.il 0) (.il 0) (.il 0)) (.il 0)) (.il 0)) (.il 0)) (.il 0)) (.il 0)) (.il 0)) (.il 0)) (.il 0)))] with u := u } : Env).c 1 = ρ.c 1 ++ [rows.getD (ρ.i 0).toNat []] := by
      show ρ.c 1 ++ [[Value.int .i64 (gI .i64 ((ρ.c 0).getD (ρ.i 0).toNat []) 0), .int .u32 (gI .u32 ((ρ.c 0).getD (ρ.i 0).toNat []) 1), .int .i64 (gI .i64 ((ρ.c 0).getD (ρ.i 0).toNat []) 2), .int .u32 (gI .u32 ((ρ.c 0).getD (ρ.i 0).toNat []) 3), .int .i64 (gI .i64 ((ρ.c 0).getD (ρ.i 0).toNat []) 4), .bool (gB ((ρ.c 0).getD (ρ.i 0).toNat []) 5), .int .i64 (gI .i64 ((ρ.c 0).getD (ρ.i 0).toNat []) 6)]] = _
      rw [c0, ← bd_cells hk]
    refine ⟨⟨I.g, ?_, c0, ?_, ?_, ?_, ?_⟩, ?_⟩
    · intro n h0 h1
      match n with
      | 0 => exact absurd rfl h0
      | 1 => exact absurd rfl h1
      | n + 2 => exact I.i (n + 2) (by omega) (by omega)
    · show 0 ≤ ρ.i 0 + 1; omega
    · show ρ.i 0 + 1 ≤ _; omega
    · rw [hc1]
      show _ = kept o (rows.take (ρ.i 0 + 1).toNat)
      rw [et, kept_next hj, if_neg (by rw [hno]; decide), I.c1]
    · rw [hc1, List.length_append]
      show (((ρ.c 1).length : Nat) : Int) + 1 = _
      simp
    · show rows.length - (ρ.i 0 + 1).toNat < rows.length - (ρ.i 0).toNat; omega
  · intro β u
    have hj : (ρ.i 0).toNat < rows.length := by omega
    have hyes : owF o (rows.getD (ρ.i 0).toNat []) = true := by
      unfold owF
      simp only [decide_eq_true_eq]
      exact hpc.1
    have et : (ρ.i 0 + 1).toNat = (ρ.i 0).toNat + 1 := by omega
    refine ⟨⟨I.g, ?_, c0, ?_, ?_, ?_, i1⟩, ?_⟩
    · intro n h0 h1
      match n with
      | 0 => exact absurd rfl h0
      | n + 1 => exact I.i (n + 1) (by omega) h1
    · show 0 ≤ ρ.i 0 + 1; omega
    · show ρ.i 0 + 1 ≤ _; omega
    · show ρ.c 1 = kept o (rows.take (ρ.i 0 + 1).toNat)
      rw [et, kept_next hj, if_pos hyes, List.append_nil]
      exact I.c1
    · show rows.length - (ρ.i 0 + 1).toNat < rows.length - (ρ.i 0).toNat; omega
  · intro β a w' hM
    have hjn : (ρ.i 0).toNat = rows.length := by omega
    have hc1 := I.c1
    rw [hjn, List.take_length] at hc1
    refine aft_fin (B := ⟨ρ, (· = g0), w, ixB g c g0, 50⟩) I.g (fun q hq => by cases hq) rfl (.exit 0) dr_fin ?_ hM
    refine ⟨?_, ?_, trivial⟩
    · intro hpc2 β2 w2 hH
      have h0 := hpc2.1
      rw [t_eq] at h0
      have h0 : ρ.i 1 = (((ρ.c 0).length : Nat) : Int) := h0
      have hl : (kept o rows).length = rows.length := by rw [← hc1]; rw [c0] at h0; omega
      have hke : kept o rows = rows := List.filter_eq_self.2 (List.length_filter_eq_length_iff.1 hl)
      have hb := hH.hp drOb (List.mem_cons_self ..)
      have hb : Blk w2 (β2 0) 147 [sltZ (β2 40) (β2 41) 7 0 (ρ.c 0).length 0] := hb
      have ht := hH.hp bdTb (List.mem_cons_of_mem _ (List.mem_cons_self ..))
      have ht : RowT w2 (β2 40) (β2 41) 50 bdLv (ρ.c 0) := ht
      rw [hH.old 40 (show 40 < 50 by decide), hH.old 41 (show 41 < 50 by decide), c0] at hb ht
      rw [hH.old 0 (show 0 < 50 by decide), sltZ_zero] at hb
      refine ⟨by rw [if_pos hl]; rfl, g, c, ?_⟩
      rw [hke]
      refine ⟨hb, ht, ?_, hne, hH.only.mono fun k _ hk => .inl hk⟩
      by_cases hc : c = 0
      · exact .inl hc
      · exact .inr (.inl ⟨hc, rfl⟩)
    · intro hpc2 β2 w2 hH
      have h0 := hpc2.1
      rw [t_not, t_eq] at h0
      have h0 : ¬ ρ.i 1 = (((ρ.c 0).length : Nat) : Int) := h0
      have hl : ¬ (kept o rows).length = rows.length := by rw [← hc1]; rw [c0] at h0; omega
      have hm1 : (⟨0, 147, [.slt 60 7 (.il 0) (.iv 1) (.il 0)], true, none, .no⟩ : Bk) ∈ [_, drTb, bdTb] := List.mem_cons_self ..
      have hm2 : drTb ∈ [(⟨0, 147, [.slt 60 7 (.il 0) (.iv 1) (.il 0)], true, none, .no⟩ : Bk), drTb, bdTb] := List.mem_cons_of_mem _ (List.mem_cons_self ..)
      have hb := hH.hp _ hm1
      have hb : Blk w2 (β2 0) 147 [sltZ (β2 60) (β2 61) 7 0 (ρ.i 1).toNat 0] := hb
      have ht := hH.hp _ hm2
      have ht : RowT w2 (β2 60) (β2 61) 50 bdLv (ρ.c 1) := ht
      have hkl : (ρ.i 1).toNat = (kept o rows).length := by rw [← hc1]; omega
      rw [hH.old 0 (show 0 < 50 by decide), sltZ_zero, hkl] at hb
      rw [hc1] at ht
      have hneq : β2 61 ≠ 0 → g0 ≠ β2 60 := fun hc => by
        have := hH.ne _ hm1 _ hm2 (by decide) (.inl rfl) (.inr hc)
        have this : β2 0 ≠ β2 60 := this
        rw [hH.old 0 (show 0 < 50 by decide)] at this
        exact this
      refine ⟨by rw [if_neg hl]; rfl, β2 60, β2 61, hb, ht, ?_, hneq, hH.only.mono fun k _ hk => .inl hk⟩
      by_cases hc : β2 61 = 0
      · exact .inl hc
      · rcases hH.may _ hm2 rfl (.inr hc) with h | h
        · exact absurd (show β2 60 = g0 from h).symm (hneq hc)
        · exact .inr (.inr h)
end Go.Proofs.Ythjigajielhkfaa
