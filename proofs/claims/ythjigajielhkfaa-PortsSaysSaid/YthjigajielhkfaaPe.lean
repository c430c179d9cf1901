/- DeleteFunc by owner: runs; what it leaves. Printed by gen_pe.py. -/
import Derived.Test.YthjigajielhkfaaPd
namespace Go.Proofs.Ythjigajielhkfaa
open Go.RowKit Sy
set_option linter.unusedVariables false
set_option linter.unusedSimpArgs false

def owRow : Tm := .tb (.cons (.int .i64)) (.iv 26) trow (.il 0)
def ixT0 : Tm := .ap 46 (.cv 0) owRow (.il 0)
def dlP : List Nat := [1, 1, 1, 0, 1, 2]
def dlTb (t : Tm) : Bk := ⟨40, 50, [], true, none, .tab bdLv t⟩
def dlSt : Sy.St := ⟨[], [bxI, dlTb (.cv 0)], ⟨⟨ixT0, -1, 3999⟩ :: bdBs, []⟩, 50⟩
def dl0 (P : Program) (fn : Func) : Rs := run P [ixdS] 10 400 50 (.code (pre dlP (bodyOf fn))) (enterS fn (ixA 176) dlSt)
def dlCx : Cx := ⟨⟨.iv 0, 0, 4000⟩ :: ⟨.iv 1, 0, 4000⟩ :: ⟨tlen (.cv 1), 0, 4000⟩ :: bdBs, [.le (.iv 0) (tlen (.cv 0)), .lt (.iv 1) (.iv 0), .le (tlen (.cv 1)) (tlen (.cv 0)), .le (tlen (.cv 0)) (tlen (.cv 1))]⟩
def dlT (P : Program) (fn : Func) : Sy.St := tplS (lfAt (dl0 P fn) 1) (lpBody (Sy.sub dlP (bodyOf fn))) [(6, .one (.c (.int .i64 (.iv 0)))), (5, .one (.c (.int .i64 (.iv 1))))] [dlTb (.cv 1)] dlCx 60
def dl1 (P : Program) (fn : Func) : Rs := run P [] 10 400 50 (.code (lpBody (Sy.sub dlP (bodyOf fn)))) (dlT P fn)
set_option maxRecDepth 100000 in
theorem dl_run0 : shR 50 none (dl0 Try.prog Try.f174) = some 
    [(.out 0 .ret [(.eq (.ap 46 (.cv 0) (.tb (.cons (.int .i64)) (.iv 26) (.tb .row (.il 0) (.il 0) (.il 0)) (.il 0)) (.il 0)) (.il (-1)))]),
    (.out 1 .normal [(.not (.eq (.ap 46 (.cv 0) (.tb (.cons (.int .i64)) (.iv 26) (.tb .row (.il 0) (.il 0) (.il 0)) (.il 0)) (.il 0)) (.il (-1))))])] := by kernel_rfl
set_option maxRecDepth 100000 in
theorem dl_ret0 : retS Try.prog (lfAt (dl0 Try.prog Try.f174) 0) Try.f174.results.toList = some (.one (.c bdSl)) := by kernel_rfl
set_option maxRecDepth 100000 in
theorem dl_hp0 : (lfAt (dl0 Try.prog Try.f174) 0).hp = [bxI, dlTb (.cv 0)] := by kernel_rfl
set_option maxRecDepth 100000 in
theorem dl_match : (matchS 50 (dlT Try.prog Try.f174) (lfAt (dl0 Try.prog Try.f174) 1)).map noU = some [.i 1 ixT0, .i 0 (.add ixT0 (.il 1)), .c 1 (.cv 0)] := by kernel_rfl
set_option maxRecDepth 100000 in
theorem dl_loop : Code.loop (lpBody (Sy.sub dlP (bodyOf Try.f174))) = Sy.sub dlP (bodyOf Try.f174) := by kernel_rfl
set_option maxRecDepth 100000 in
theorem dl_run1 : shR 50 (some (dlT Try.prog Try.f174)) (dl1 Try.prog Try.f174) = some 
    [(.must (.lt (.iv 0) (.tb .len (.cv 1) (.il 0) (.il 0))) [(.lt (.iv 0) (.tb .len (.cv 0) (.il 0) (.il 0))), (.le (.iv 0) (.tb .len (.cv 0) (.il 0) (.il 0))), (.lt (.iv 1) (.iv 0)), (.le (.tb .len (.cv 1) (.il 0) (.il 0)) (.tb .len (.cv 0) (.il 0) (.il 0))), (.le (.tb .len (.cv 0) (.il 0) (.il 0)) (.tb .len (.cv 1) (.il 0) (.il 0)))]),
    (.must (.lt (.iv 1) (.tb .len (.cv 0) (.il 0) (.il 0))) [(.not (.eq (.tb (.get (.int .i64) 6) (.cv 1) (.iv 0) (.il 0)) (.iv 26))), (.lt (.iv 0) (.tb .len (.cv 1) (.il 0) (.il 0))), (.lt (.iv 0) (.tb .len (.cv 0) (.il 0) (.il 0))), (.le (.iv 0) (.tb .len (.cv 0) (.il 0) (.il 0))), (.lt (.iv 1) (.iv 0)), (.le (.tb .len (.cv 1) (.il 0) (.il 0)) (.tb .len (.cv 0) (.il 0) (.il 0))), (.le (.tb .len (.cv 0) (.il 0) (.il 0)) (.tb .len (.cv 1) (.il 0) (.il 0)))]),
    (.must (.lt (.iv 1) (.tb .len (.cv 1) (.il 0) (.il 0))) [(.lt (.iv 1) (.tb .len (.cv 0) (.il 0) (.il 0))), (.not (.eq (.tb (.get (.int .i64) 6) (.cv 1) (.iv 0) (.il 0)) (.iv 26))), (.lt (.iv 0) (.tb .len (.cv 1) (.il 0) (.il 0))), (.lt (.iv 0) (.tb .len (.cv 0) (.il 0) (.il 0))), (.le (.iv 0) (.tb .len (.cv 0) (.il 0) (.il 0))), (.lt (.iv 1) (.iv 0)), (.le (.tb .len (.cv 1) (.il 0) (.il 0)) (.tb .len (.cv 0) (.il 0) (.il 0))), (.le (.tb .len (.cv 0) (.il 0) (.il 0)) (.tb .len (.cv 1) (.il 0) (.il 0)))]),
    (.back [(.i 1 (.add (.iv 1) (.il 1))), (.i 0 (.add (.iv 0) (.il 1))), (.c 1 (.tb .set (.cv 1) (.iv 1) (.tb (.cons (.int .i64)) (.tb (.get (.int .i64) 0) (.cv 1) (.iv 0) (.il 0)) (.tb (.cons (.int .u32)) (.tb (.get (.int .u32) 1) (.cv 1) (.iv 0) (.il 0)) (.tb (.cons (.int .i64)) (.tb (.get (.int .i64) 2) (.cv 1) (.iv 0) (.il 0)) (.tb (.cons (.int .u32)) (.tb (.get (.int .u32) 3) (.cv 1) (.iv 0) (.il 0)) (.tb (.cons (.int .i64)) (.tb (.get (.int .i64) 4) (.cv 1) (.iv 0) (.il 0)) (.tb (.cons .bool) (.tb (.get .bool 5) (.cv 1) (.iv 0) (.il 0)) (.tb (.cons (.int .i64)) (.tb (.get (.int .i64) 6) (.cv 1) (.iv 0) (.il 0)) (.tb .row (.il 0) (.il 0) (.il 0)) (.il 0)) (.il 0)) (.il 0)) (.il 0)) (.il 0)) (.il 0)) (.il 0))))] [(.lt (.iv 1) (.tb .len (.cv 1) (.il 0) (.il 0))), (.lt (.iv 1) (.tb .len (.cv 0) (.il 0) (.il 0))), (.not (.eq (.tb (.get (.int .i64) 6) (.cv 1) (.iv 0) (.il 0)) (.iv 26))), (.lt (.iv 0) (.tb .len (.cv 1) (.il 0) (.il 0))), (.lt (.iv 0) (.tb .len (.cv 0) (.il 0) (.il 0))), (.le (.iv 0) (.tb .len (.cv 0) (.il 0) (.il 0))), (.lt (.iv 1) (.iv 0)), (.le (.tb .len (.cv 1) (.il 0) (.il 0)) (.tb .len (.cv 0) (.il 0) (.il 0))), (.le (.tb .len (.cv 0) (.il 0) (.il 0)) (.tb .len (.cv 1) (.il 0) (.il 0)))]),
    (.back [(.i 0 (.add (.iv 0) (.il 1)))] [(.eq (.tb (.get (.int .i64) 6) (.cv 1) (.iv 0) (.il 0)) (.iv 26)), (.lt (.iv 0) (.tb .len (.cv 1) (.il 0) (.il 0))), (.lt (.iv 0) (.tb .len (.cv 0) (.il 0) (.il 0))), (.le (.iv 0) (.tb .len (.cv 0) (.il 0) (.il 0))), (.lt (.iv 1) (.iv 0)), (.le (.tb .len (.cv 1) (.il 0) (.il 0)) (.tb .len (.cv 0) (.il 0) (.il 0))), (.le (.tb .len (.cv 0) (.il 0) (.il 0)) (.tb .len (.cv 1) (.il 0) (.il 0)))]),
    (.out 5 (.exit 0) [(.not (.lt (.iv 0) (.tb .len (.cv 0) (.il 0) (.il 0)))), (.le (.iv 0) (.tb .len (.cv 0) (.il 0) (.il 0))), (.lt (.iv 1) (.iv 0)), (.le (.tb .len (.cv 1) (.il 0) (.il 0)) (.tb .len (.cv 0) (.il 0) (.il 0))), (.le (.tb .len (.cv 0) (.il 0) (.il 0)) (.tb .len (.cv 1) (.il 0) (.il 0)))])] := by kernel_rfl
set_option maxRecDepth 100000 in
theorem dl_fin : smR Try.prog Try.f174 50 (run Try.prog [] 10 400 50 (.code (aft (.exit 0) dlP (bodyOf Try.f174))) (lfAt (dl1 Try.prog Try.f174) 5)) = some 
    [(.must (.le (.iv 1) (.tb .len (.cv 0) (.il 0) (.il 0))) [(.not (.lt (.iv 0) (.tb .len (.cv 0) (.il 0) (.il 0)))), (.le (.iv 0) (.tb .len (.cv 0) (.il 0) (.il 0))), (.lt (.iv 1) (.iv 0)), (.le (.tb .len (.cv 1) (.il 0) (.il 0)) (.tb .len (.cv 0) (.il 0) (.il 0))), (.le (.tb .len (.cv 0) (.il 0) (.il 0)) (.tb .len (.cv 1) (.il 0) (.il 0)))]),
    (.must (.le (.add (.iv 1) (.sub (.tb .len (.cv 0) (.il 0) (.il 0)) (.iv 1))) (.tb .len (.cv 1) (.il 0) (.il 0))) [(.le (.iv 1) (.tb .len (.cv 0) (.il 0) (.il 0))), (.not (.lt (.iv 0) (.tb .len (.cv 0) (.il 0) (.il 0)))), (.le (.iv 0) (.tb .len (.cv 0) (.il 0) (.il 0))), (.lt (.iv 1) (.iv 0)), (.le (.tb .len (.cv 1) (.il 0) (.il 0)) (.tb .len (.cv 0) (.il 0) (.il 0))), (.le (.tb .len (.cv 0) (.il 0) (.il 0)) (.tb .len (.cv 1) (.il 0) (.il 0)))]),
    (.must (.le (.tb .len (.cv 1) (.il 0) (.il 0)) (.add (.iv 1) (.sub (.tb .len (.cv 0) (.il 0) (.il 0)) (.iv 1)))) [(.le (.add (.iv 1) (.sub (.tb .len (.cv 0) (.il 0) (.il 0)) (.iv 1))) (.tb .len (.cv 1) (.il 0) (.il 0))), (.le (.iv 1) (.tb .len (.cv 0) (.il 0) (.il 0))), (.not (.lt (.iv 0) (.tb .len (.cv 0) (.il 0) (.il 0)))), (.le (.iv 0) (.tb .len (.cv 0) (.il 0) (.il 0))), (.lt (.iv 1) (.iv 0)), (.le (.tb .len (.cv 1) (.il 0) (.il 0)) (.tb .len (.cv 0) (.il 0) (.il 0))), (.le (.tb .len (.cv 0) (.il 0) (.il 0)) (.tb .len (.cv 1) (.il 0) (.il 0)))]),
    (.ret (.one (.c (.slt 40 7 (.il 0) (.iv 1) (.il 0)))) [⟨2, 3, [(.int .i64 (.iv 26))], false, .none, .no⟩, ⟨40, 50, [], true, .none, (.tab [(.int .i64), (.int .u32), (.int .i64), (.int .u32), (.int .i64), .bool, (.int .i64)] (.tb .clr (.cv 1) (.iv 1) (.il 0)))⟩] [(.le (.tb .len (.cv 1) (.il 0) (.il 0)) (.add (.iv 1) (.sub (.tb .len (.cv 0) (.il 0) (.il 0)) (.iv 1)))), (.le (.add (.iv 1) (.sub (.tb .len (.cv 0) (.il 0) (.il 0)) (.iv 1))) (.tb .len (.cv 1) (.il 0) (.il 0))), (.le (.iv 1) (.tb .len (.cv 0) (.il 0) (.il 0))), (.not (.lt (.iv 0) (.tb .len (.cv 0) (.il 0) (.il 0)))), (.le (.iv 0) (.tb .len (.cv 0) (.il 0) (.il 0))), (.lt (.iv 1) (.iv 0)), (.le (.tb .len (.cv 1) (.il 0) (.il 0)) (.tb .len (.cv 0) (.il 0) (.il 0))), (.le (.tb .len (.cv 0) (.il 0) (.il 0)) (.tb .len (.cv 1) (.il 0) (.il 0)))])] := by kernel_rfl
def emA (n : Nat) : SV := .one (.c (.slc n 0 (.il 0) (.iv 30)))
set_option maxRecDepth 100000 in
theorem dl_emp : smR Try.prog Try.f174 50 (run Try.prog [] 10 400 50 (.code (bodyOf Try.f174)) (enterS Try.f174 [emA 40, .one (.c (.fn 176 [2]))] ⟨[], [bxI], ⟨[i64B 26], []⟩, 50⟩)) = some 
    [(.ret (.one (.c (.slc 40 0 (.il 0) (.iv 30)))) [⟨2, 3, [(.int .i64 (.iv 26))], false, .none, .no⟩] [])] := by kernel_rfl
set_option maxRecDepth 100000 in
theorem eq_emp : smR Try.prog Try.f118 50 (run Try.prog [] 10 400 50 (.code (bodyOf Try.f118)) (enterS Try.f118 [emA 38, .one (.c bdSl)] ⟨[], [bdTb], ⟨bdBs, []⟩, 50⟩)) = some 
    [(.ret (.one (.c (.bool (.bl false)))) [⟨40, 50, [], false, .none, (.tab [(.int .i64), (.int .u32), (.int .i64), (.int .u32), (.int .i64), .bool, (.int .i64)] (.cv 0))⟩] [(.not (.eq (.il 0) (.tb .len (.cv 0) (.il 0) (.il 0))))]),
    (.ret (.one (.c (.bool (.bl true)))) [⟨40, 50, [], false, .none, (.tab [(.int .i64), (.int .u32), (.int .i64), (.int .u32), (.int .i64), .bool, (.int .i64)] (.cv 0))⟩] [(.eq (.il 0) (.tb .len (.cv 0) (.il 0) (.il 0)))])] := by kernel_rfl
set_option maxRecDepth 100000 in
theorem dr_nil : smR Try.prog Try.f110 50 (run Try.prog [] 10 400 50 (.code (bodyOf Try.f110)) (enterS Try.f110 [.one (.c (.ptr 0 0)), .one (.c (.int .i64 (.iv 26)))] ⟨[], [⟨0, 252, [.nslc], false, none, .no⟩], ⟨[i64B 26], []⟩, 50⟩)) = some 
    [(.ret (.one (.c (.int .i64 (.il 7)))) [⟨0, 252, [.nslc], false, .none, .no⟩] [])] := by kernel_rfl
/-! What it leaves. -/
theorem ixOf_rng (p : List Value → Bool) : ∀ l : List (List Value), -1 ≤ ixOf p l ∧ ixOf p l < (l.length : Int)
  | [] => ⟨Int.le_refl _, show (-1 : Int) < 0 by decide⟩
  | a :: l => by
    have ih := ixOf_rng p l
    simp only [ixOf, List.length_cons]
    split
    · omega
    · split <;> omega
theorem ixOf_spec {p : List Value → Bool} : ∀ {l : List (List Value)}, ixOf p l ≠ -1 → (ixOf p l).toNat < l.length ∧ 0 ≤ ixOf p l ∧ (∀ j, j < (ixOf p l).toNat → p (l.getD j []) = false) ∧ p (l.getD (ixOf p l).toNat []) = true
  | [], h => absurd rfl h
  | a :: l, h => by
    cases ha : p a with
    | true =>
      have e : ixOf p (a :: l) = 0 := by simp [ixOf, ha]
      rw [e]
      exact ⟨by simp, by decide, fun j hj => absurd hj (by simp), ha⟩
    | false =>
      have e : ixOf p (a :: l) = if ixOf p l < 0 then -1 else ixOf p l + 1 := by simp [ixOf, ha]
      rw [e] at h ⊢
      split at h
      · exact absurd rfl h
      · rename_i hq
        rw [if_neg hq]
        obtain ⟨i1, i2, i3, i4⟩ := ixOf_spec (p := p) (l := l) (by omega)
        have et : (ixOf p l + 1).toNat = (ixOf p l).toNat + 1 := by omega
        rw [et]
        refine ⟨by simp; omega, by omega, fun j hj => ?_, i4⟩
        cases j with
        | zero => exact ha
        | succ j => exact i3 j (by omega)
theorem ixOf_no {p : List Value → Bool} : ∀ {l : List (List Value)}, ixOf p l = -1 → ∀ r ∈ l, p r = false
  | [], _, r, hr => by cases hr
  | a :: l, h, r, hr => by
    cases ha : p a with
    | true => simp [ixOf, ha] at h
    | false =>
      have ih := ixOf_rng p l
      have h2 : ixOf p l = -1 := by
        simp only [ixOf, ha, Bool.false_eq_true, if_false] at h
        split at h <;> omega
      rcases List.mem_cons.1 hr with rfl | hr
      · exact ha
      · exact ixOf_no h2 r hr
theorem take_next : ∀ {l : List (List Value)} {j : Nat}, j < l.length → l.take (j + 1) = l.take j ++ [l.getD j []]
  | [], _, h => absurd h (by simp)
  | a :: l, 0, _ => by simp
  | a :: l, j + 1, h => by
    have ih := take_next (l := l) (j := j) (by simpa using h)
    rw [List.take_succ_cons, ih]
    rfl
theorem drop_getD {l l' : List (List Value)} {j : Nat} (h : l.drop j = l'.drop j) (hl : j < l.length) (hl' : j < l'.length) : l.getD j [] = l'.getD j [] := by
  rw [List.drop_eq_getElem_cons hl, List.drop_eq_getElem_cons hl'] at h
  injection h with h
  rw [List.getD, List.getD, List.getElem?_eq_getElem hl, List.getElem?_eq_getElem hl', h]
/-- Those that are not that owner's. -/
def kept (o : Int) (l : List (List Value)) : List (List Value) := l.filter fun a => !owF o a
theorem kept_next {o : Int} {l : List (List Value)} {j : Nat} (h : j < l.length) : kept o (l.take (j + 1)) = kept o (l.take j) ++ if owF o (l.getD j []) = true then [] else [l.getD j []] := by
  unfold kept
  rw [take_next h, List.filter_append]
  congr 1
  generalize l.getD j [] = a
  cases hq : owF o a <;> simp [hq]
theorem kept_all {o : Int} {l : List (List Value)} (h : ∀ r ∈ l, owF o r = false) : kept o l = l := List.filter_eq_self.2 fun r hr => by rw [h r hr]; rfl
structure DlI (rows : List (List Value)) (o : Int) (ρ : Env) : Prop where
  g : ρ.good
  i : ∀ n, n ≠ 0 → n ≠ 1 → ρ.i n = (owEnv plF rows o).i n
  c0 : ρ.c 0 = rows
  k0 : 0 ≤ ρ.i 1
  kj : ρ.i 1 < ρ.i 0
  jn : ρ.i 0 ≤ (rows.length : Int)
  len : (ρ.c 1).length = rows.length
  tk : (ρ.c 1).take (ρ.i 1).toNat = kept o (rows.take (ρ.i 0).toNat)
  dr : (ρ.c 1).drop (ρ.i 0).toNat = rows.drop (ρ.i 0).toNat
theorem DlI.cx {rows : List (List Value)} {o : Int} (hn : rows.length ≤ 4000) {ρ : Env} (I : DlI rows o ρ) : dlCx.ok ρ := by
  have k0 := I.k0
  have kj := I.kj
  have jn := I.jn
  have len := I.len
  have c0 : (ρ.c 0).length = rows.length := by rw [I.c0]
  have h6 := wrap_bd .i64 o
  refine ⟨fun x hx => ?_, fun t ht => ?_⟩
  · change x ∈ [_, _, _, _, _, _, _, _, _, _] at hx
    simp only [List.mem_cons, List.not_mem_nil, or_false] at hx
    rcases hx with rfl | rfl | rfl | rfl | rfl | rfl | rfl | rfl | rfl | rfl
    · show (0 : Int) ≤ ρ.i 0 ∧ ρ.i 0 ≤ 4000
      omega
    · show (0 : Int) ≤ ρ.i 1 ∧ ρ.i 1 ≤ 4000
      omega
    · show (0 : Int) ≤ (((ρ.c 1).length : Nat) : Int) ∧ (((ρ.c 1).length : Nat) : Int) ≤ 4000
      omega
    · show (0 : Int) ≤ (((ρ.c 0).length : Nat) : Int) ∧ (((ρ.c 0).length : Nat) : Int) ≤ 4000
      omega
    · show _ ≤ ρ.i 20 ∧ ρ.i 20 ≤ _
      rw [I.i 20 (by decide) (by decide)]
      exact (show (-9223372036854775808 : Int) ≤ 0 ∧ (0 : Int) ≤ 9223372036854775807 from ⟨by decide, by decide⟩)
    · show _ ≤ ρ.i 21 ∧ ρ.i 21 ≤ _
      rw [I.i 21 (by decide) (by decide)]
      exact (show (0 : Int) ≤ 0 ∧ (0 : Int) ≤ 4294967295 from ⟨by decide, by decide⟩)
    · show _ ≤ ρ.i 22 ∧ ρ.i 22 ≤ _
      rw [I.i 22 (by decide) (by decide)]
      exact (show (-9223372036854775808 : Int) ≤ 0 ∧ (0 : Int) ≤ 9223372036854775807 from ⟨by decide, by decide⟩)
    · show _ ≤ ρ.i 23 ∧ ρ.i 23 ≤ _
      rw [I.i 23 (by decide) (by decide)]
      exact (show (0 : Int) ≤ 0 ∧ (0 : Int) ≤ 4294967295 from ⟨by decide, by decide⟩)
    · show _ ≤ ρ.i 24 ∧ ρ.i 24 ≤ _
      rw [I.i 24 (by decide) (by decide)]
      exact (show (-9223372036854775808 : Int) ≤ 0 ∧ (0 : Int) ≤ 9223372036854775807 from ⟨by decide, by decide⟩)
    · show _ ≤ ρ.i 26 ∧ ρ.i 26 ≤ _
      rw [I.i 26 (by decide) (by decide)]
      exact h6
  · change t ∈ [_, _, _, _] at ht
    simp only [List.mem_cons, List.not_mem_nil, or_false] at ht
    rcases ht with rfl | rfl | rfl | rfl
    · rw [t_le]; show ρ.i 0 ≤ (((ρ.c 0).length : Nat) : Int); omega
    · rw [t_lt]; exact kj
    · rw [t_le]; show (((ρ.c 1).length : Nat) : Int) ≤ (((ρ.c 0).length : Nat) : Int); omega
    · rw [t_le]; show (((ρ.c 0).length : Nat) : Int) ≤ (((ρ.c 1).length : Nat) : Int); omega
def DelPost (w : World) (g c : Nat) (rows : List (List Value)) (o : Int) (v : Value) (w' : World) : Prop :=
  ∃ T : List (List Value), v = sltV g c (kept o rows).length ∧ T.length = rows.length ∧ T.take (kept o rows).length = kept o rows ∧ RowT w' g c 50 bdLv T ∧ Only (· = g) w w'
set_option maxRecDepth 100000 in
set_option maxHeartbeats 1000000 in
theorem del_calls {w : World} {g c gb : Nat} {rows : List (List Value)} {o : Int} (hT : RowT w g c 50 bdLv rows) (hB : Blk w gb 3 [.int .i64 o]) (ho : IntKind.i64.wrap o = o) (hn : rows.length ≤ 4000) (hne : c ≠ 0 → gb ≠ g) :
    Calls Try.prog 174 #[sltV g c rows.length, .func (.func 176) #[] #[.pointer (some ⟨gb, 0, none⟩)]] w (RetP (DelPost w g c rows o)) := by
  have hself : But0 (owEnv plF rows o) (owEnv plF rows o) := ⟨fun _ _ => rfl, rfl, rfl, rfl, rfl, rfl⟩
  have hix : (den (owEnv plF rows o) ixT0).i = ixOf (fun a => owF o a) rows := by
    show ixOf (fun a => owF (gI .i64 [Value.int .i64 (IntKind.i64.wrap o)] 0) a) rows = _
    have : gI .i64 [Value.int .i64 (IntKind.i64.wrap o)] 0 = o := by
      show IntKind.i64.wrap (IntKind.i64.wrap o) = o
      rw [ho, ho]
    rw [this]
  have hrng := ixOf_rng (fun a => owF o a) rows
  have hM0 : Md (owEnv plF rows o) (· = g) w (ixB g c gb) 50 dlSt (ixB g c gb) ⟨#[], []⟩ w := by
    refine ⟨rfl, fun x hx => ?_, fun x hx y hy hxy hrx hry => ?_, fun x hx hw _ => ?_, ⟨fun x hx => ?_, fun t ht => by cases ht⟩, Only.refl _ _, fun _ _ => rfl⟩
    · change x ∈ [_, _] at hx
      simp only [List.mem_cons, List.not_mem_nil, or_false] at hx
      rcases hx with rfl | rfl
      · show Blk w gb _ [Value.int .i64 (IntKind.i64.wrap o)]
        rw [ho]
        exact hB
      · exact hT
    · change x ∈ [_, _] at hx
      change y ∈ [_, _] at hy
      simp only [List.mem_cons, List.not_mem_nil, or_false] at hx hy
      rcases hx with rfl | rfl <;> rcases hy with rfl | rfl
      · exact absurd rfl hxy
      · exact hne (hry.resolve_left (by simp [dlTb, Bk.nilable, Xt.isTab]))
      · exact (hne (hrx.resolve_left (by simp [dlTb, Bk.nilable, Xt.isTab]))).symm
      · exact absurd rfl hxy
    · change x ∈ [_, _] at hx
      simp only [List.mem_cons, List.not_mem_nil, or_false] at hx
      rcases hx with rfl | rfl
      · cases hw
      · exact .inl rfl
    · change x ∈ _ :: bdBs at hx
      rcases List.mem_cons.1 hx with rfl | hx
      · show (-1 : Int) ≤ (den (owEnv plF rows o) ixT0).i ∧ (den (owEnv plF rows o) ixT0).i ≤ 3999
        rw [hix]
        omega
      · exact ow_bs hn hself x hx
  have hargs : (#[sltV g c rows.length, .func (.func 176) #[] #[.pointer (some ⟨gb, 0, none⟩)]] : Array Value) = ((ixA 176).map (SV.den (owEnv plF rows o) (ixB g c gb))).toArray := by
    show _ = (#[sltZ g c 7 0 rows.length 0, _] : Array Value)
    rw [sltZ_zero]
    rfl
  have hsp : ∀ ρ : Env, ρ.f = plF → ∀ q ∈ [ixdS], Sy.Spec.Ok Try.prog ρ q := fun ρ hf q hq => by
    rw [List.mem_singleton.1 hq]
    exact ixSp_ok ixd_runs fun x y z => by rw [hf]; rfl
  refine calls_pre (B := ⟨owEnv plF rows o, (· = g), w, ixB g c gb, 50⟩) (sp := [ixdS]) (p := dlP) (xs := ixA 176) (s := dlSt) (r := dl0 Try.prog Try.f174) (fun i => rfl) (hsp _ rfl) rfl Try.func174 rfl rfl dl_run0 hM0 ?_ hargs
  refine ⟨?_, ?_, trivial⟩
  · intro hpc β a w' hM
    have h0 := hpc.1
    rw [t_eq] at h0
    have h0 : ixOf (fun a => owF o a) rows = -1 := hix.symm.trans h0
    have hk := kept_all (ixOf_no h0)
    refine ret_post (B := ⟨owEnv plF rows o, (· = g), w, ixB g c gb, 50⟩) hM dl_ret0 ⟨rows, ?_, rfl, ?_, ?_, hM.only⟩
    · show sltZ (β 40) (β 41) 7 0 rows.length 0 = _
      rw [hM.old 40 (show 40 < 50 by decide), hM.old 41 (show 41 < 50 by decide), sltZ_zero, hk]
      rfl
    · rw [hk, List.take_length]
    · have hb : dlTb (.cv 0) ∈ (lfAt (dl0 Try.prog Try.f174) 0).hp := by
        rw [dl_hp0]
        exact List.mem_cons_of_mem _ (List.mem_cons_self ..)
      have := hM.hp _ hb
      have : RowT w' (β 40) (β 41) 50 bdLv rows := this
      rw [hM.old 40 (show 40 < 50 by decide), hM.old 41 (show 41 < 50 by decide)] at this
      exact this
  · intro hpc β a w1 hM1
    have h0 := hpc.1
    rw [t_not, t_eq] at h0
    have h0 : ixOf (fun a => owF o a) rows ≠ -1 := fun e => h0 (hix.trans e)
    obtain ⟨s1, s2, s3, s4⟩ := ixOf_spec h0
    show (Sy.sub dlP (bodyOf Try.f174)).wp Try.prog _ a w1
    rw [← dl_loop]
    have hI1 : ∀ u, DlI rows o { (owEnv plF rows o).sub β [.i 1 ixT0, .i 0 (.add ixT0 (.il 1)), .c 1 (.cv 0)] with u := u } := fun u => by
      have e1 : ({ (owEnv plF rows o).sub β [.i 1 ixT0, .i 0 (.add ixT0 (.il 1)), .c 1 (.cv 0)] with u := u } : Env).i 1 = ixOf (fun a => owF o a) rows := hix
      have e0 : ({ (owEnv plF rows o).sub β [.i 1 ixT0, .i 0 (.add ixT0 (.il 1)), .c 1 (.cv 0)] with u := u } : Env).i 0 = ixOf (fun a => owF o a) rows + 1 := by
        show (den (owEnv plF rows o) ixT0).i + 1 = _
        rw [hix]
      refine ⟨fun i => rfl, fun n h0 h1 => ?_, rfl, by rw [e1]; exact s2, by rw [e0, e1]; omega, by rw [e0]; omega, rfl, ?_, rfl⟩
      · match n with
        | 0 => exact absurd rfl h0
        | 1 => exact absurd rfl h1
        | n + 2 => rfl
      · rw [e0, e1]
        show rows.take _ = _
        have et : (ixOf (fun a => owF o a) rows + 1).toNat = (ixOf (fun a => owF o a) rows).toNat + 1 := by omega
        rw [et, kept_next s1, if_pos s4, List.append_nil, kept_all]
        intro r hr
        obtain ⟨j, hj, rfl⟩ := List.getElem_of_mem hr
        rw [List.length_take] at hj
        have := s3 j (by omega)
        rw [List.getD, List.getElem?_eq_getElem (by omega)] at this
        rw [List.getElem_take]
        exact this
    obtain ⟨u, β', hM2⟩ := Sy.Md.enter hM1 dl_match fun u => (hI1 u).cx hn
    refine loop_wp (w0 := w) (r := dl1 Try.prog Try.f174) rfl dl_run1 (DlI rows o) (fun ρ => rows.length - (ρ.i 0).toNat) (fun ρ I => I.g) (fun ρ I q hq => by cases hq) (fun ρ I => I.cx hn) ?_ (hI1 u) hM2
    intro ρ I
    have k0 := I.k0
    have kj := I.kj
    have jn := I.jn
    have len := I.len
    have c0 := I.c0
    have h26 : ρ.i 26 = o := (I.i 26 (by decide) (by decide)).trans ho
    refine ⟨?_, ?_, ?_, ?_, ?_, ?_, trivial⟩
    all_goals
      intro hpc
      replace hpc : pcs ρ _ := hpc
      simp only [pcs, t_lt, t_le, t_eq, t_not, i_iv, i_il, i_tl, i_get, c_cv, c0, len, gI_def, h26, and_true] at hpc
    · rw [t_lt]; show ρ.i 0 < (((ρ.c 1).length : Nat) : Int); omega
    · rw [t_lt]; show ρ.i 1 < (((ρ.c 0).length : Nat) : Int); rw [c0]; omega
    · rw [t_lt]; show ρ.i 1 < (((ρ.c 1).length : Nat) : Int); omega
    · intro β u
      have hj : (ρ.i 0).toNat < rows.length := by omega
      have hrow := drop_getD I.dr (by omega) hj
      have hk := hT.ok _ (getD_mem hj)
      have hno : owF o (rows.getD (ρ.i 0).toNat []) = false := by
        unfold owF
        rw [← hrow]
        simp only [decide_eq_false_iff_not]
        exact hpc.2.2.1
      have et : (ρ.i 0 + 1).toNat = (ρ.i 0).toNat + 1 := by omega
      have ek : (ρ.i 1 + 1).toNat = (ρ.i 1).toNat + 1 := by omega
      have hc1 : ({ ρ.sub β [(.i 1 (.add (.iv 1) (.il 1))), (.i 0 (.add (.iv 0) (.il 1))), (.c 1 (.tb .set (.cv 1) (.iv 1) (.tb (.cons (.int .i64)) (.tb (.get (.int .i64) 0) (.cv 1) (.iv 0) (.il 0)) (.tb (.cons (.int .u32)) (.tb (.get (.int .u32) 1) (.cv 1) (.iv 0) (.il 0)) (.tb (.cons (.int .i64)) (.tb (.get (.int .i64) 2) (.cv 1) (.iv 0) (.il 0)) (.tb (.cons (.int .u32)) (.tb (.get (.int .u32) 3) (.cv 1) (.iv 0) (.il 0)) (.tb (.cons (.int .i64)) (.tb (.get (.int .i64) 4) (.cv 1) (.iv 0) (.il 0)) (.tb (.cons .bool) (.tb (.get .bool 5) (.cv 1) (.iv 0) (.il 0)) (.tb (.cons (.int .i64)) (.tb (.get (.int .i64) 6) (.cv 1) (.iv 0) (.il 0)) (.tb .row (.il 0) (.il 0) (.il 0)) (.il 0)) (.il 0)) (.il 0)) (.il 0)) (.il 0)) (.il 0)) (.il 0))))] with u := u } : Env).c 1 = (ρ.c 1).set (ρ.i 1).toNat (rows.getD (ρ.i 0).toNat []) := by
        show (ρ.c 1).set (ρ.i 1).toNat [Value.int .i64 (gI .i64 ((ρ.c 1).getD (ρ.i 0).toNat []) 0), .int .u32 (gI .u32 ((ρ.c 1).getD (ρ.i 0).toNat []) 1), .int .i64 (gI .i64 ((ρ.c 1).getD (ρ.i 0).toNat []) 2), .int .u32 (gI .u32 ((ρ.c 1).getD (ρ.i 0).toNat []) 3), .int .i64 (gI .i64 ((ρ.c 1).getD (ρ.i 0).toNat []) 4), .bool (gB ((ρ.c 1).getD (ρ.i 0).toNat []) 5), .int .i64 (gI .i64 ((ρ.c 1).getD (ρ.i 0).toNat []) 6)] = _
        rw [hrow, ← bd_cells hk]
      refine ⟨⟨I.g, ?_, c0, ?_, ?_, ?_, ?_, ?_, ?_⟩, ?_⟩
      · intro n h0 h1
        match n with
        | 0 => exact absurd rfl h0
        | 1 => exact absurd rfl h1
        | n + 2 => exact I.i (n + 2) (by omega) (by omega)
      · show 0 ≤ ρ.i 1 + 1; omega
      · show ρ.i 1 + 1 < ρ.i 0 + 1; omega
      · show ρ.i 0 + 1 ≤ _; omega
      · rw [hc1, List.length_set, len]
      · rw [hc1]
        show List.take (ρ.i 1 + 1).toNat _ = kept o (rows.take (ρ.i 0 + 1).toNat)
        rw [et, ek, kept_next hj, if_neg (by rw [hno]; decide), take_next (by rw [List.length_set, len]; omega), ← I.tk]
        congr 1
        · rw [List.take_set_of_le (Nat.le_refl _)]
        · rw [List.getD, List.getElem?_set_self (by omega)]
          rfl
      · rw [hc1]
        show List.drop (ρ.i 0 + 1).toNat _ = rows.drop (ρ.i 0 + 1).toNat
        rw [et, List.drop_set_of_lt (by omega), ← List.drop_drop, ← List.drop_drop, I.dr]
      · show rows.length - (ρ.i 0 + 1).toNat < rows.length - (ρ.i 0).toNat; omega
    · intro β u
      have hj : (ρ.i 0).toNat < rows.length := by omega
      have hrow := drop_getD I.dr (by omega) hj
      have hyes : owF o (rows.getD (ρ.i 0).toNat []) = true := by
        unfold owF
        rw [← hrow]
        simp only [decide_eq_true_eq]
        exact hpc.1
      have et : (ρ.i 0 + 1).toNat = (ρ.i 0).toNat + 1 := by omega
      refine ⟨⟨I.g, ?_, c0, k0, ?_, ?_, len, ?_, ?_⟩, ?_⟩
      · intro n h0 h1
        match n with
        | 0 => exact absurd rfl h0
        | n + 1 => exact I.i (n + 1) (by omega) h1
      · show ρ.i 1 < ρ.i 0 + 1; omega
      · show ρ.i 0 + 1 ≤ _; omega
      · show List.take (ρ.i 1).toNat (ρ.c 1) = kept o (rows.take (ρ.i 0 + 1).toNat)
        rw [et, kept_next hj, if_pos hyes, List.append_nil]
        exact I.tk
      · show List.drop (ρ.i 0 + 1).toNat (ρ.c 1) = rows.drop (ρ.i 0 + 1).toNat
        rw [et, ← List.drop_drop, ← List.drop_drop, I.dr]
      · show rows.length - (ρ.i 0 + 1).toNat < rows.length - (ρ.i 0).toNat; omega
    · intro β a w' hM
      have hjn : (ρ.i 0).toNat = rows.length := by omega
      have htk := I.tk
      rw [hjn, List.take_length] at htk
      have hkl : (kept o rows).length = (ρ.i 1).toNat := by rw [← htk, List.length_take]; omega
      refine aft_fin (B := ⟨ρ, (· = g), w, ixB g c gb, 50⟩) I.g (fun q hq => by cases hq) rfl (.exit 0) dl_fin ?_ hM
      refine ⟨?_, ?_, ?_, ?_, trivial⟩
      · intro _
        rw [t_le]; show ρ.i 1 ≤ (((ρ.c 0).length : Nat) : Int); rw [c0]; omega
      · intro _
        rw [t_le]; show ρ.i 1 + ((((ρ.c 0).length : Nat) : Int) - ρ.i 1) ≤ (((ρ.c 1).length : Nat) : Int); rw [c0]; omega
      · intro _
        rw [t_le]; show (((ρ.c 1).length : Nat) : Int) ≤ ρ.i 1 + ((((ρ.c 0).length : Nat) : Int) - ρ.i 1); rw [c0]; omega
      · intro _ β2 w2 hH
        have hb := hH.hp (dlTb (.tb .clr (.cv 1) (.iv 1) (.il 0))) (List.mem_cons_of_mem _ (List.mem_cons_self ..))
        have hb : RowT w2 (β2 40) (β2 41) 50 bdLv ((ρ.c 1).take (ρ.i 1).toNat ++ ((ρ.c 1).drop (ρ.i 1).toNat).map zeroR) := hb
        rw [hH.old 40 (show 40 < 50 by decide), hH.old 41 (show 41 < 50 by decide)] at hb
        have hb : RowT w2 g c 50 bdLv ((ρ.c 1).take (ρ.i 1).toNat ++ ((ρ.c 1).drop (ρ.i 1).toNat).map zeroR) := hb
        refine ⟨_, ?_, ?_, ?_, hb, hH.only⟩
        · show sltZ (β2 40) (β2 41) 7 0 (ρ.i 1).toNat 0 = _
          rw [hH.old 40 (show 40 < 50 by decide), hH.old 41 (show 41 < 50 by decide), sltZ_zero, hkl]
          rfl
        · rw [List.length_append, List.length_map, ← List.length_append, List.take_append_drop, len]
        · rw [hkl, List.take_append_of_le_length (by rw [List.length_take]; omega), List.take_take, Nat.min_self]
          exact htk
end Go.Proofs.Ythjigajielhkfaa
