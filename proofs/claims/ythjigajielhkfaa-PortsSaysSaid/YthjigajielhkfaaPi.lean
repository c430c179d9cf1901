/- Bounds: contracts in letters of Find. -/
import Derived.Test.YthjigajielhkfaaPh
namespace Go.Proofs.Ythjigajielhkfaa
open Go.RowKit Sy
set_option linter.unusedVariables false
set_option linter.unusedSimpArgs false

def fvI : Value → Int
  | .tuple #[.int _ i, _] => i
  | _ => 0
def fvB : Value → Bool
  | .tuple #[_, .bool b] => b
  | _ => false
theorem findV_eq (rows : List (List Value)) (p la lp ra rp n : Int) : findV rows p la lp ra rp n = .tuple #[.int .i64 (fvI (findV rows p la lp ra rp n)), .bool (fvB (findV rows p la lp ra rp n))] := by
  unfold findV pickO
  split
  · rfl
  · split
    · rfl
    · split <;> rfl
def fdF (x y : Dn) : Value := findV x.c (gI .i64 (y.c.headD []) 0) (gI .u32 (y.c.headD []) 1) (gI .i64 (y.c.headD []) 2) (gI .u32 (y.c.headD []) 3) (gI .i64 (y.c.headD []) 4) (gI .u64 (y.c.headD []) 5)
/-- What the function letters stand for, Find's besides. -/
def plG : Nat → Dn → Dn → Dn → Dn := fun n x y z =>
  if n = 43 then dI (fvI (fdF x y))
  else if n = 44 then dB (fvB (fdF x y))
  else plF n x y z
def fdRow (p la lp ra rp n : Tm) : Tm := .tb (.cons (.int .i64)) p (.tb (.cons (.int .u32)) la (.tb (.cons (.int .i64)) lp (.tb (.cons (.int .u32)) ra (.tb (.cons (.int .i64)) rp (.tb (.cons (.int .u64)) n trow (.il 0)) (.il 0)) (.il 0)) (.il 0)) (.il 0)) (.il 0)
def inK (c : Cx) (k : IntKind) (t : Tm) : List Tm := need c (.le (.il (kMin k)) t) ++ need c (.le t (.il (kMax k)))
theorem inK_ok {ρ : Env} {c : Cx} (hc : c.ok ρ) {k : IntKind} {t : Tm} (h : Sy.Met ρ (inK c k t)) : kMin k ≤ (den ρ t).i ∧ (den ρ t).i ≤ kMax k := ⟨le_of (need_ok hc h.l), le_of (need_ok hc h.r)⟩
def findSp (f : FuncId) (T : TypeId) : Sy.Spec where
  f := f
  pre := fun s xs => match xs with
    | [.one (.c (.ptr l o)), .one (.c (.int .i64 p)), .one (.agg [.int .u32 la, .int .i64 lp]), .one (.agg [.int .u32 ra, .int .i64 rp]), .one (.c (.int .u64 n))] => match ownArg s T l with
      | some (m, _, _) => if Nat.beq o 0 then some (m ++ (inK s.cx .i64 p ++ (inK s.cx .u32 la ++ (inK s.cx .i64 lp ++ (inK s.cx .u32 ra ++ (inK s.cx .i64 rp ++ inK s.cx .u64 n)))))) else none
      | none => none
    | _ => none
  go := fun _ s xs => match xs with
    | [.one (.c (.ptr l o)), .one (.c (.int .i64 p)), .one (.agg [.int .u32 la, .int .i64 lp]), .one (.agg [.int .u32 ra, .int .i64 rp]), .one (.c (.int .u64 n))] => match ownArg s T l with
      | some (_, _, t) => some (s, .tup [.c (.int .i64 (.ap 43 t (fdRow p la lp ra rp n) (.il 0))), .c (.bool (.ap 44 t (fdRow p la lp ra rp n) (.il 0)))])
      | none => none
    | _ => none
theorem findSp_ok {P : Program} {ρ : Env} {f : FuncId} {T : TypeId} (E : FindRuns P f T) (h43 : ρ.f 43 = plG 43) (h44 : ρ.f 44 = plG 44) : (findSp f T).Ok P ρ := by
  intro B s xs m s' v hB hpre hgo hm β a w hM
  subst hB
  simp only [findSp] at hpre hgo
  split at hgo
  · rename_i l o p la lp ra rp n
    simp only [] at hpre
    split at hgo
    · rename_i m1 ol t h1
      rw [h1] at hpre
      simp only [] at hpre
      split at hpre
      · rename_i q
        injection hpre with hpre
        injection hgo with hgo
        injection hgo with e1 e2
        subst hpre e1 e2
        obtain ⟨g, c, b, x, hf, hs, hx, hcs, hT, hv, hB, hR, hl, hne, _⟩ := ownArg_ok hM h1 hm.l
        have b1 := inK_ok hM.cx hm.r.l
        have b2 := inK_ok hM.cx hm.r.r.l
        have b3 := inK_ok hM.cx hm.r.r.r.l
        have b4 := inK_ok hM.cx hm.r.r.r.r.l
        have b5 := inK_ok hM.cx hm.r.r.r.r.r.l
        have b6 := inK_ok hM.cx hm.r.r.r.r.r.r
        have hcall := E hB hR hl hne ⟨b1, b2, b3, b4, b5, b6⟩
        show Calls P f (#[.pointer (some ⟨β l, o, none⟩), .int .i64 (den B.ρ p).i, .agg #[.int .u32 (den B.ρ la).i, .int .i64 (den B.ρ lp).i], .agg #[.int .u32 (den B.ρ ra).i, .int .i64 (den B.ρ rp).i], .int .u64 (den B.ρ n).i]) w _
        rw [Nat.eq_of_beq_eq_true q]
        refine hcall.mono ?_
        rintro e w' ⟨v, rfl, rfl, hb⟩
        refine ⟨β, a, ?_, ⟨hM.act, fun b hb' => (hM.hp b hb').below hb, hM.ne, hM.may, hM.cx, hM.only.then_below hb, hM.old⟩⟩
        show _ = Ending.returned (.tuple #[.int .i64 (B.ρ.f 43 _ _ _).i, .bool (B.ρ.f 44 _ _ _).b])
        rw [h43, h44]
        have e : fdF (den B.ρ t) (den B.ρ (fdRow p la lp ra rp n)) = findV (den B.ρ t).c (den B.ρ p).i (den B.ρ la).i (den B.ρ lp).i (den B.ρ ra).i (den B.ρ rp).i (den B.ρ n).i := by
          show findV _ (IntKind.i64.wrap _) (IntKind.u32.wrap _) (IntKind.i64.wrap _) (IntKind.u32.wrap _) (IntKind.i64.wrap _) (IntKind.u64.wrap _) = _
          rw [wrap_in b1.1 b1.2, wrap_in b2.1 b2.2, wrap_in b3.1 b3.2, wrap_in b4.1 b4.2, wrap_in b5.1 b5.2, wrap_in b6.1 b6.2]
        show _ = Ending.returned (.tuple #[.int .i64 (fvI (fdF (den B.ρ t) (den B.ρ (fdRow p la lp ra rp n)))), .bool (fvB (fdF (den B.ρ t) (den B.ρ (fdRow p la lp ra rp n))))])
        rw [e, ← findV_eq]
      · cases hpre
    · cases hgo
  · cases hgo
end Go.Proofs.Ythjigajielhkfaa
/- Eq of an empty slice that is not nil. -/
namespace Go.Proofs.Ythjigajielhkfaa
open Go.RowKit Sy
set_option linter.unusedVariables false
set_option linter.unusedSimpArgs false

section
variable {w : World} {g c : Nat} {rows : List (List Value)}
def eeEnv (rows : List (List Value)) (k : Nat) : Env := { mkEnv [] [] [] [] with i := fun n => if n = 30 then (k : Int) else 0, c := fun _ => rows }
theorem eqE_calls {a k : Nat} (hT : RowT w g c 50 bdLv rows) (hn : rows.length ≤ 4000) :
    Calls Try.prog 118 #[.slice (some ⟨a, 0, none⟩) 0 k, sltV g c rows.length] w (RetP fun v w' => v = .bool (sqT [] rows) ∧ Below w.heap.size w w') := by
  have hbs : Bds (eeEnv rows k) bdBs := by
    intro x hx
    change x ∈ [_, _, _, _, _, _, _] at hx
    simp only [List.mem_cons, List.not_mem_nil, or_false] at hx
    rcases hx with rfl | rfl | rfl | rfl | rfl | rfl | rfl
    · show (0 : Int) ≤ ((rows.length : Nat) : Int) ∧ ((rows.length : Nat) : Int) ≤ 4000
      omega
    · exact (show (-9223372036854775808 : Int) ≤ 0 ∧ (0 : Int) ≤ 9223372036854775807 from ⟨by decide, by decide⟩)
    · exact (show (0 : Int) ≤ 0 ∧ (0 : Int) ≤ 4294967295 from ⟨by decide, by decide⟩)
    · exact (show (-9223372036854775808 : Int) ≤ 0 ∧ (0 : Int) ≤ 9223372036854775807 from ⟨by decide, by decide⟩)
    · exact (show (0 : Int) ≤ 0 ∧ (0 : Int) ≤ 4294967295 from ⟨by decide, by decide⟩)
    · exact (show (-9223372036854775808 : Int) ≤ 0 ∧ (0 : Int) ≤ 9223372036854775807 from ⟨by decide, by decide⟩)
    · exact (show (-9223372036854775808 : Int) ≤ 0 ∧ (0 : Int) ≤ 9223372036854775807 from ⟨by decide, by decide⟩)
  have hM0 : Md (eeEnv rows k) (fun _ => False) w (ixB g c a) 50 ⟨[], [bdTb], ⟨bdBs, []⟩, 50⟩ (ixB g c a) ⟨#[], []⟩ w := by
    refine ⟨rfl, fun x hx => ?_, fun x hx y hy hxy _ _ => ?_, fun x hx hw _ => ?_, ⟨hbs, fun t ht => by cases ht⟩, Only.refl _ _, fun _ _ => rfl⟩
    · rw [List.mem_singleton.1 hx]
      exact hT
    · rw [List.mem_singleton.1 hx, List.mem_singleton.1 hy] at hxy
      exact absurd rfl hxy
    · rw [List.mem_singleton.1 hx] at hw
      cases hw
  refine calls_sm (B := ⟨eeEnv rows k, fun _ => False, w, ixB g c a, 50⟩) (sp := []) (fun i => rfl) (fun q hq => by cases hq) 10 400 Try.func118 rfl _ _ _ 50 rfl eq_emp hM0 ?_ ?_
  · refine ⟨?_, ?_, trivial⟩
    · intro hpc β w' hH
      have h0 := hpc.1
      rw [t_not, t_eq] at h0
      change ¬ (0 : Int) = ((rows.length : Nat) : Int) at h0
      refine ⟨?_, Sy.Only.below_all hH.only⟩
      cases rows with
      | nil => exact absurd rfl h0
      | cons r rows => rfl
    · intro hpc β w' hH
      have h0 := hpc.1
      rw [t_eq] at h0
      change (0 : Int) = ((rows.length : Nat) : Int) at h0
      refine ⟨?_, Sy.Only.below_all hH.only⟩
      have : rows = [] := List.eq_nil_of_length_eq_zero (by omega)
      rw [this]
      rfl
  · show _ = (#[_, sltZ g c 7 0 rows.length 0] : Array Value)
    rw [sltZ_zero]
    rfl
/-- All of a table: a slice of its own of the same rows; nil where the table is. -/
def AllPost (w : World) (rows : List (List Value)) (v : Value) (w' : World) : Prop :=
  Below w.heap.size w w' ∧ ((v = .slice none 0 0 ∧ rows = []) ∨ ∃ g1 c1, v = .slice (some ⟨g1, 0, none⟩) rows.length c1 ∧ w.heap.size ≤ g1 ∧ RowT w' g1 c1 50 bdLv rows)
set_option maxHeartbeats 1000000 in
set_option maxRecDepth 100000 in
theorem all_R {g0 : Nat} (hB : Blk w g0 252 [.slice (some ⟨g, 0, none⟩) rows.length c]) (hT : RowT w g c 50 bdLv rows) (hc : c ≠ 0) (hn : rows.length ≤ 4000) :
    Calls Try.prog 119 #[.pointer (some ⟨g0, 0, none⟩)] w (RetP (AllPost w rows)) := by
  have hcell := hB.at_ (i := 0) (v := .slice (some ⟨g, 0, none⟩) rows.length c) rfl
  have HT := Lib.hid hT
  clear hB hT
  go_enter Try.func119, Try.ntmps119
  go_wp2_with fail
  refine (clone_calls HT.out hc hn).mono ?_
  rintro e w1 ⟨v', rfl, hown, hnn, hbel⟩
  obtain ⟨g1, c1, rfl, hg1, hT1⟩ := row_of_own HT.out.ok hown hnn
  have HT1 := Lib.hid hT1
  clear hT1 hown
  go_wp2
  go_ret
  exact ⟨_, rfl, hbel, .inr ⟨g1, c1, rfl, hg1, HT1.out⟩⟩
set_option maxHeartbeats 1000000 in
set_option maxRecDepth 100000 in
theorem all_N {g0 : Nat} (hB : Blk w g0 252 [.slice none 0 0]) :
    Calls Try.prog 119 #[.pointer (some ⟨g0, 0, none⟩)] w (RetP (AllPost w [])) := by
  have hcell := hB.at_ (i := 0) (v := .slice none 0 0) rfl
  have q22 : ∀ (w : World) (a : Option Addr) (n c n' c' : Nat), (binOp .eql 145 (.slice a n c) (.slice none n' c')).run Try.prog w = .ok (.bool a.isNone) w := fun w a n c n' c' => Lib.run_eql_slice_nil w _ 50 a n c n' c' rfl
  clear hB
  go_enter Try.func119, Try.ntmps119
  go_wp2
  go_ret
  exact ⟨_, rfl, Below.refl _ _, .inl ⟨rfl, rfl⟩⟩
theorem all_runs {g0 : Nat} (hB : Blk w g0 252 [sltV g c rows.length]) (hT : RowT w g c 50 bdLv rows) (hn : rows.length ≤ 4000) :
    Calls Try.prog 119 #[.pointer (some ⟨g0, 0, none⟩)] w (RetP (AllPost w rows)) := by
  by_cases hc : c = 0
  · have hl := hT.len
    have h0 : rows = [] := List.eq_nil_of_length_eq_zero (by omega)
    subst h0
    rw [show sltV g c ([] : List (List Value)).length = .slice none 0 0 from by unfold sltV; rw [if_pos hc]] at hB
    exact all_N hB
  · rw [sltV_some hc] at hB
    exact all_R hB hT hc hn
end
end Go.Proofs.Ythjigajielhkfaa
/- All in letters. -/
namespace Go.Proofs.Ythjigajielhkfaa
open Go.RowKit Sy
set_option linter.unusedVariables false
set_option linter.unusedSimpArgs false

/-- A table that is only read is told besides. -/
theorem Md.addTab {ρ : Env} {S : Nat → Prop} {w0 : World} {β0 : Bn} {n0 : Nat} {s : Sy.St} {β : Bn} {a : Act} {w : World} (hM : Md ρ S w0 β0 n0 s β a w) (n : Nat) (ty : TypeId) (lv : List Kd) (t : Tm) (hk : RowT w (β n) (β (n + 1)) ty lv (den ρ t).c) (hne : β (n + 1) ≠ 0 → ∀ y ∈ s.hp, y.real β → β y.l ≠ β n) :
    Md ρ S w0 β0 n0 { s with hp := insBk ⟨n, ty, [], false, none, .tab lv t⟩ s.hp } β a w := by
  have hreal : Bk.real β ⟨n, ty, [], false, none, .tab lv t⟩ → β (n + 1) ≠ 0 := fun hr => hr.resolve_left (by simp [Bk.nilable, Xt.isTab])
  refine ⟨hM.act, fun b hb => ?_, fun x hx y hy hxy hrx hry => ?_, fun b hb hw hr => ?_, hM.cx, hM.only, hM.old⟩
  · rcases mem_ins hb with rfl | hb
    · exact hk
    · exact hM.hp b hb
  · rcases mem_ins hx with rfl | hx <;> rcases mem_ins hy with rfl | hy
    · exact absurd rfl hxy
    · exact (hne (hreal hrx) y hy hry).symm
    · exact hne (hreal hry) x hx hrx
    · exact hM.ne x hx y hy hxy hrx hry
  · rcases mem_ins hb with rfl | hb
    · cases hw
    · exact hM.may b hb hw hr
def allSp (f : FuncId) (T : TypeId) : Sy.Spec where
  f := f
  pre := fun s xs => match xs with
    | [.one (.c (.ptr l o))] => match ownArg s T l with
      | some (m, _, _) => if Nat.beq o 0 then some m else none
      | none => none
    | _ => none
  go := fun n0 s xs => match xs with
    | [.one (.c (.ptr l o))] => match ownArg s T l with
      | some (_, _, t) => if Nat.ble n0 s.nx && (s.free s.nx && s.free (s.nx + 1)) then some ({ s with hp := insBk ⟨s.nx, 50, [], false, none, .tab bdLv t⟩ s.hp, nx := s.nx + 2 }, .one (.c (.slz s.nx 7 (mkTL s.cx t)))) else none
      | none => none
    | _ => none
theorem allSp_ok {ρ : Env} : (allSp 119 252).Ok Try.prog ρ := by
  intro B s xs m s' v hB hpre hgo hm β a w hM
  subst hB
  simp only [allSp] at hpre hgo
  split at hgo
  · rename_i l o
    simp only [] at hpre
    split at hgo
    · rename_i m1 ol t h1
      rw [h1] at hpre
      simp only [] at hpre
      split at hpre
      · rename_i qo
        injection hpre with hpre
        subst hpre
        split at hgo
        · rename_i q
          simp only [Bool.and_eq_true] at q
          injection hgo with hgo
          injection hgo with e1 e2
          subst e1 e2
          have q1 : B.n0 ≤ s.nx := Nat.le_of_ble_eq_true q.1
          obtain ⟨g, c, b, x, hf, hs, hx, hcs, hT, hv, hBk, hR, hl, hne, _⟩ := ownArg_ok hM h1 hm
          have hsz := hBk.lt
          have hcall := all_runs hBk hR hl
          show Calls Try.prog _ (#[.pointer (some ⟨β l, o, none⟩)]) w _
          rw [Nat.eq_of_beq_eq_true qo]
          refine hcall.mono ?_
          rintro e w' ⟨v, rfl, hb, hv⟩
          have hM1 : B.Md s β a w' := ⟨hM.act, fun b hb' => (hM.hp b hb').below hb, hM.ne, hM.may, hM.cx, hM.only.then_below hb, hM.old⟩
          have fin : ∀ g1 c1, RowT w' g1 c1 50 bdLv (den B.ρ t).c → (c1 ≠ 0 → w.heap.size ≤ g1) → v = C.den B.ρ (upd (upd β s.nx g1) (s.nx + 1) c1) (.slz s.nx 7 (mkTL s.cx t)) →
              ∃ β' a', Ending.returned v = .returned (SV.den B.ρ β' (.one (.c (.slz s.nx 7 (mkTL s.cx t))))) ∧ B.Md { s with hp := insBk ⟨s.nx, 50, [], false, none, .tab bdLv t⟩ s.hp, nx := s.nx + 2 } β' a' w' := by
            intro g1 c1 hR1 hg1 hv1
            have hM2 := Sy.Md.letter hM1 s.nx g1 c1 q1 q.2.1 q.2.2
            have e1 : upd (upd β s.nx g1) (s.nx + 1) c1 s.nx = g1 := (upd_old (by omega)).trans (upd_new ..)
            have e2 : upd (upd β s.nx g1) (s.nx + 1) c1 (s.nx + 1) = c1 := upd_new ..
            have hfr := q.2
            unfold St.free at hfr
            simp only [Bool.and_eq_true, List.all_eq_true, Bool.not_eq_true'] at hfr
            have hM3 := Md.addTab hM2 s.nx 50 bdLv t (by rw [e1, e2]; exact hR1) (fun hc y hy hr => by
              rw [e2] at hc
              rw [e1]
              have o1 : upd (upd β s.nx g1) (s.nx + 1) c1 y.l = β y.l := (upd_old (beq_ne (hfr.2.2 y hy).1)).trans (upd_old (beq_ne (hfr.1.2 y hy).1))
              have o2 : upd (upd β s.nx g1) (s.nx + 1) c1 (y.l + 1) = β (y.l + 1) := (upd_old (beq_ne (hfr.2.2 y hy).2.2)).trans (upd_old (beq_ne (hfr.1.2 y hy).2.2))
              have hr' : y.real β := hr.imp id fun h => by rw [← o2]; exact h
              have := (hM.hp y hy).lt hr'
              have := hg1 hc
              rw [o1]
              omega)
            exact ⟨_, a, by rw [hv1]; rfl, ⟨hM3.act, hM3.hp, hM3.ne, hM3.may, hM3.cx, hM3.only, hM3.old⟩⟩
          rcases hv with ⟨rfl, h0⟩ | ⟨g1, c1, rfl, hg1, hR1⟩
          · refine fin 0 0 (by rw [h0]; exact RowT.none_ ..) (fun h => absurd rfl h) ?_
            show _ = if _ then _ else _
            rw [if_pos ⟨(upd_old (by omega)).trans (upd_new ..), upd_new ..⟩]
          · refine fin g1 c1 hR1 (fun _ => hg1) ?_
            show _ = if _ then _ else _
            have e1 : upd (upd β s.nx g1) (s.nx + 1) c1 s.nx = g1 := (upd_old (by omega)).trans (upd_new ..)
            have e2 : upd (upd β s.nx g1) (s.nx + 1) c1 (s.nx + 1) = c1 := upd_new ..
            rw [e1, e2, if_neg (fun h => by have := h.1; omega), mkTL_ok hM.cx]
            rfl
        · cases hgo
      · cases hpre
    · cases hgo
  · cases hgo
end Go.Proofs.Ythjigajielhkfaa
/- Eq in letters, the first slice as All gives it. -/
namespace Go.Proofs.Ythjigajielhkfaa
open Go.RowKit Sy
set_option linter.unusedVariables false
set_option linter.unusedSimpArgs false

def bdEqQ : Tm := .and (fldEq (.cv 0) (.cv 1) (.iv 0) (.int .i64) 0) (.and (.and (fldEq (.cv 0) (.cv 1) (.iv 0) (.int .u32) 1) (fldEq (.cv 0) (.cv 1) (.iv 0) (.int .i64) 2)) (.and (.and (fldEq (.cv 0) (.cv 1) (.iv 0) (.int .u32) 3) (fldEq (.cv 0) (.cv 1) (.iv 0) (.int .i64) 4)) (.and (fldEq (.cv 0) (.cv 1) (.iv 0) .bool 5) (fldEq (.cv 0) (.cv 1) (.iv 0) (.int .i64) 6))))
set_option maxRecDepth 100000 in
theorem eqBd : EqRuns Try.prog 118 Try.f118 50 bdLv bdEqQ where
  row := fun ρ => by
    show (_ && ((_ && _) && ((_ && _) && (_ && _)))) = (_ && (_ && (_ && (_ && (_ && (_ && _))))))
    simp only [Bool.and_assoc]
    rfl
  hf := Try.func118
  body := by kernel_rfl
  run0 := by kernel_rfl
  ret0 := by kernel_rfl
  match_ := by kernel_rfl
  loop := by kernel_rfl
  run1 := by kernel_rfl
  cx1 := by kernel_rfl
  ret1 := by kernel_rfl
  fin := by kernel_rfl
def zArg (s : Sy.St) : SV → Option (List Tm × Nat × Tm)
  | .one (.c (.slz l m len)) => match Sy.find l s.hp with
    | some b => match b.str, b.x with
      | none, .tab lv t => if Nat.beq b.ty 50 && sameLv bdLv lv then some (need s.cx (.le len (mkTL s.cx t)) ++ (need s.cx (.le (mkTL s.cx t) len) ++ need s.cx (.le (mkTL s.cx t) (.il 4000))), l, t) else none
      | _, _ => none
    | none => none
  | _ => none
def eqZ (f : FuncId) : Sy.Spec where
  f := f
  pre := fun s xs => match xs with
    | [x, y] => match zArg s x, tabArg s.cx s.hp 50 bdLv y with
      | some (m1, l, _), some (m2, ol, u) => if apartL (some l) ol then some (m1 ++ (m2 ++ need s.cx (.le (mkTL s.cx u) (.il 4000)))) else none
      | _, _ => none
    | _ => none
  go := fun _ s xs => match xs with
    | [x, y] => match zArg s x, tabArg s.cx s.hp 50 bdLv y with
      | some (_, _, t), some (_, _, u) => some (s, .one (.c (.bool (mkTE t u))))
      | _, _ => none
    | _ => none
theorem zArg_ok {ρ : Env} {S : Nat → Prop} {w0 : World} {β0 : Bn} {n0 : Nat} {s : Sy.St} {β : Bn} {a : Act} {w : World} (hM : Md ρ S w0 β0 n0 s β a w) {x : SV} {m : List Tm} {l : Nat} {t : Tm} (h : zArg s x = some (m, l, t)) (hm : Sy.Met ρ m) :
    ((x.den ρ β = .slice none 0 0 ∧ (den ρ t).c = []) ∨ x.den ρ β = .slice (some ⟨β l, 0, none⟩) (den ρ t).c.length (β (l + 1))) ∧ RowT w (β l) (β (l + 1)) 50 bdLv (den ρ t).c ∧ (den ρ t).c.length ≤ 4000 ∧ ∃ b ∈ s.hp, b.l = l ∧ (β (l + 1) ≠ 0 → b.real β) := by
  unfold zArg at h
  split at h
  · rename_i l' mm len
    split at h
    · rename_i b hf
      split at h
      · rename_i lv t' hs hx
        split at h
        · rename_i q
          simp only [Bool.and_eq_true] at q
          injection h with h
          injection h with e1 e2
          injection e2 with e2 e3
          subst e1 e2 e3
          have hmem := find_mem hf
          have q2 := sameLv_eq q.2
          subst q2
          have hB := hM.hp b hmem.1
          unfold BkOk at hB
          rw [hs, hx] at hB
          have hB : RowT w (β b.l) (β (b.l + 1)) b.ty bdLv (den ρ t').c := hB
          rw [hmem.2, Nat.eq_of_beq_eq_true q.1] at hB
          have l1 := le_of (need_ok hM.cx hm.l)
          have l2 := le_of (need_ok hM.cx hm.r.l)
          have l3 := le_of (need_ok hM.cx hm.r.r)
          rw [mkTL_ok hM.cx] at l1 l2 l3
          change _ ≤ (4000 : Int) at l3
          have hlen := hB.len
          refine ⟨?_, hB, by omega, b, hmem.1, hmem.2, fun hc => .inr (by rw [hmem.2]; exact hc)⟩
          by_cases h0 : β l' = 0 ∧ β (l' + 1) = 0
          · refine .inl ⟨?_, List.eq_nil_of_length_eq_zero (by have := h0.2; omega)⟩
            show (if _ then _ else _) = _
            rw [if_pos h0]
          · refine .inr ?_
            show (if _ then _ else _) = _
            rw [if_neg h0]
            congr 1
            omega
        · cases h
      · cases h
    · cases h
  · cases h
theorem eqZ_ok {ρ : Env} : (eqZ 118).Ok Try.prog ρ := by
  intro B s xs m s' v hB hpre hgo hm β a w hM
  subst hB
  simp only [eqZ] at hpre hgo
  split at hgo
  · rename_i x y
    simp only [] at hpre
    split at hgo
    · rename_i m1 l t m2 ol u h1 h2
      rw [h1, h2] at hpre
      simp only [] at hpre
      split at hpre
      · rename_i q
        injection hpre with hpre
        injection hgo with hgo
        injection hgo with e1 e2
        subst hpre e1 e2
        obtain ⟨a1, a2, a3, b, hb, hbl, hbr⟩ := zArg_ok hM h1 hm.l
        obtain ⟨g2, c2, b1, b2, b3, b4⟩ := tabArg_ok hM hM.cx h2 hm.r.l
        have hlen := le_of (need_ok hM.cx hm.r.r)
        rw [mkTL_ok hM.cx] at hlen
        change _ ≤ (4000 : Int) at hlen
        show Calls Try.prog _ (#[x.den B.ρ β, y.den B.ρ β]) w _
        have fin : ∀ {args : Array Value}, Calls Try.prog 118 args w (fun e w' => e = .returned (.bool (sqT (den B.ρ t).c (den B.ρ u).c)) ∧ Below w.heap.size w w') →
            Calls Try.prog 118 args w fun e w' => ∃ β' a', e = .returned (SV.den B.ρ β' (.one (.c (.bool (mkTE t u))))) ∧ B.Md s β' a' w' := fun hc => by
          refine hc.mono ?_
          rintro e w' ⟨rfl, hb⟩
          refine ⟨β, a, ?_, ⟨hM.act, fun b hb' => (hM.hp b hb').below hb, hM.ne, hM.may, hM.cx, hM.only.then_below hb, hM.old⟩⟩
          show Ending.returned (.bool _) = .returned (.bool (den B.ρ (mkTE t u)).b)
          rw [mkTE_ok]
        refine fin ?_
        rw [b1]
        rcases a1 with ⟨e, h0⟩ | e
        · rw [e, h0]
          exact eq_calls (ga := 0) (ca := 0) eqBd (RowT.none_ ..) b2 (Nat.zero_le _) b3 (fun h => absurd rfl h)
        · rw [e]
          by_cases hc : β (l + 1) = 0
          · have h0 : (den B.ρ t).c = [] := List.eq_nil_of_length_eq_zero (by have := a2.len; omega)
            rw [h0]
            refine (eqE_calls b2 (by omega)).mono ?_
            rintro e w' ⟨v, rfl, rfl, hb⟩
            exact ⟨rfl, hb⟩
          · rw [← sltV_some hc]
            refine eq_calls eqBd a2 b2 (by omega) b3 fun _ n2 => ?_
            obtain ⟨r, hr, rfl, rr, rfl⟩ := b4 n2
            rw [← hbl]
            refine hM.ne b hb r hr (fun e => ?_) (hbr hc) rr
            rw [← hbl, e] at q
            change (!(Nat.beq r.l r.l)) = true at q
            rw [Nat.beq_refl] at q
            cases q
      · cases hpre
    · cases hgo
  · cases hgo
end Go.Proofs.Ythjigajielhkfaa
