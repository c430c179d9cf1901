/- Cover: the rows of prefixes; the reference's halving in letters. -/
import Derived.Test.YtagdnjhkoajbnaaDoorSyY
import Derived.Test.YtagdnjhkoajbnaaDoorCoverPlain
namespace Go.Proofs.YtagdnjhkoajbnaaDoor
open Go.RowKit Sy
set_option linter.unusedVariables false
set_option linter.unusedSimpArgs false

/-- What the blocks of an end tell of a new table. -/
theorem newTab_tab {ρ : Env} {w0 : World} {β0 : Bn} {n0 : Nat} {s : Sy.St} {β : Bn} {a : Act} {w : World} (hM : Md ρ (fun _ => False) w0 β0 n0 s β a w) {l : Nat} {ty : TypeId} {lv : List Kd} {t L : Tm} {rest : List C} (hb : s.hp.head? = some ⟨l, ty, rest, true, none, .tab lv t⟩) (hL : (den ρ L).i = ((den ρ t).c.length : Int)) :
    NewTab w0 w (C.den ρ β (.slt l lv.length (.il 0) L (.il 0))) ty lv (den ρ t).c := by
  have hm : (⟨l, ty, rest, true, none, .tab lv t⟩ : Bk) ∈ s.hp := List.mem_of_mem_head? (by rw [hb]; rfl)
  have hB : RowT w (β l) (β (l + 1)) ty lv (den ρ t).c := hM.hp _ hm
  refine ⟨Sy.Only.below_all hM.only, β l, β (l + 1), ?_, hB, ?_⟩
  · rw [slt_den, hL]
    show sltZ _ _ _ ((0 : Int)).toNat _ ((0 : Int)).toNat = _
    rw [show ((0 : Int)).toNat = 0 from rfl, sltZ_zero, Int.toNat_natCast]
  · by_cases h0 : β (l + 1) = 0
    · exact .inl h0
    · exact .inr ((hM.may _ hm rfl (.inr h0)).resolve_left fun h => h)
theorem newTab_hp {ρ : Env} {w0 : World} {β0 : Bn} {n0 : Nat} {bks : List Bk} {β : Bn} {w : World} (hM : Sy.Hp ρ (fun _ => False) w0 β0 n0 bks β w) {l : Nat} {ty : TypeId} {lv : List Kd} {t L : Tm} {rest : List C} (hm : (⟨l, ty, rest, true, none, .tab lv t⟩ : Bk) ∈ bks) (hL : (den ρ L).i = ((den ρ t).c.length : Int)) :
    NewTab w0 w (C.den ρ β (.slt l lv.length (.il 0) L (.il 0))) ty lv (den ρ t).c := by
  have hB : RowT w (β l) (β (l + 1)) ty lv (den ρ t).c := hM.hp _ hm
  refine ⟨Sy.Only.below_all hM.only, β l, β (l + 1), ?_, hB, ?_⟩
  · rw [slt_den, hL]
    show sltZ _ _ _ ((0 : Int)).toNat _ ((0 : Int)).toNat = _
    rw [show ((0 : Int)).toNat = 0 from rfl, sltZ_zero, Int.toNat_natCast]
  · by_cases h0 : β (l + 1) = 0
    · exact .inl h0
    · exact .inr ((hM.may _ hm rfl (.inr h0)).resolve_left fun h => h)
theorem newTab_row {ρ : Env} {w0 : World} {β0 : Bn} {n0 : Nat} {s : Sy.St} {β : Bn} {a : Act} {w : World} (hM : Md ρ (fun _ => False) w0 β0 n0 s β a w) {l : Nat} {ty : TypeId} {lv : List Kd} {cs : List C} (hb : s.hp.head? = some ⟨l, ty, cs, true, none, .no⟩) (hk : kAll lv (denL ρ β cs)) :
    NewTab w0 w (C.den ρ β (.slc l 0 (.il 1) (.il 1))) ty lv [denL ρ β cs] := by
  have hm : (⟨l, ty, cs, true, none, .no⟩ : Bk) ∈ s.hp := List.mem_of_mem_head? (by rw [hb]; rfl)
  have hB : Blk w (β l) ty (denL ρ β cs) := hM.hp _ hm
  have hl := kAll_len hk
  refine ⟨Sy.Only.below_all hM.only, β l, 1, ?_, ?_, .inr ((hM.may _ hm rfl (Bk.fixed rfl rfl β)).resolve_left fun h => h)⟩
  · rw [sltV_some (by omega)]
    rfl
  · refine RowT.of_blk hB (by rw [hl, Nat.one_mul]) (by decide) ?_ (Nat.le_refl _) (fun r hr => by rw [List.mem_singleton.1 hr]; exact hk)
    rw [List.take_of_length_le (by simp [hl])]
    simp
theorem newTab_rowh {ρ : Env} {w0 : World} {β0 : Bn} {n0 : Nat} {bks : List Bk} {β : Bn} {w : World} (hM : Sy.Hp ρ (fun _ => False) w0 β0 n0 bks β w) {l : Nat} {ty : TypeId} {lv : List Kd} {cs : List C} (hm : (⟨l, ty, cs, true, none, .no⟩ : Bk) ∈ bks) (hk : kAll lv (denL ρ β cs)) :
    NewTab w0 w (C.den ρ β (.slc l 0 (.il 1) (.il 1))) ty lv [denL ρ β cs] := by
  have hB : Blk w (β l) ty (denL ρ β cs) := hM.hp _ hm
  have hl := kAll_len hk
  refine ⟨Sy.Only.below_all hM.only, β l, 1, ?_, ?_, .inr ((hM.may _ hm rfl (Bk.fixed rfl rfl β)).resolve_left fun h => h)⟩
  · rw [sltV_some (by omega)]
    rfl
  · refine RowT.of_blk hB (by rw [hl, Nat.one_mul]) (by decide) ?_ (Nat.le_refl _) (fun r hr => by rw [List.mem_singleton.1 hr]; exact hk)
    rw [List.take_of_length_le (by simp [hl])]
    simp
theorem newTab_nil {w0 w : World} (hb : Below w0.heap.size w0 w) (ty : TypeId) (lv : List Kd) : NewTab w0 w (.slice none 0 0) ty lv [] := ⟨hb, 0, 0, rfl, RowT.none_ .., .inl rfl⟩
def pxLv : List Kd := [.int .u32, .int .i64]
def pxRow (x : Nat × Nat) : List Value := [.int .u32 (x.1 : Int), .int .i64 (x.2 : Int)]
def pxRows (l : List (Nat × Nat)) : List (List Value) := l.map pxRow
theorem halve_len : ∀ (m s f t : Nat), (halve m s f t).length ≤ 2 ^ m
  | 0, s, f, t => by
    rw [halve]
    split
    · exact Nat.zero_le _
    · exact Nat.le_refl _
  | m + 1, s, f, t => by
    have h1 := halve_len m s f t
    have h2 := halve_len m (s + 2 ^ m) f t
    have hp := Nat.two_pow_pos m
    rw [halve, Nat.pow_succ]
    split
    · exact Nat.zero_le _
    · split
      · show 1 ≤ _
        omega
      · rw [List.length_append]
        omega
/-- What the function letter 62 stands for: a row of a prefix, from, to. -/
def cvF : Nat → Dn → Dn → Dn → Dn := fun n x y z =>
  if n = 62 then dC (pxRows (halve (32 - ((getV (.int .i64) ((x.c.headD []).getD 1 (.bool false))).i).toNat) ((getV (.int .u32) ((x.c.headD []).getD 0 (.bool false))).i).toNat y.i.toNat z.i.toNat))
  else dI 0
/-- cover at a prefix that leaves m bits. -/
def CvRuns (P : Program) (f : FuncId) (m : Nat) : Prop := ∀ {w : World} {s x y : Nat}, s + 2 ^ m ≤ 4294967296 → x ≤ 4294967295 → y ≤ 4294967295 →
  Calls P f #[.agg #[.int .u32 (s : Int), .int .i64 ((32 - m : Nat) : Int)], .int .u64 (x : Int), .int .u64 (y : Int)] w (RetP fun v w' => NewTab w w' v 29 pxLv (pxRows (halve m s x y)))
def pxT (a b : Tm) : Tm := .tb (.cons (.int .u32)) a (.tb (.cons (.int .i64)) b trow (.il 0)) (.il 0)
/-- cover, one level down: the letter 9 is what is left there. -/
def cvSp (f : FuncId) : Sy.Spec where
  f := f
  pre := fun s xs => match xs with
    | [.one (.agg [.int .u32 a, .int .i64 b]), .one (.c (.int .u64 x)), .one (.c (.int .u64 y))] =>
      if s.free s.nx && s.free (s.nx + 1) then some (need s.cx (.le (.il 0) (.iv 9)) ++ (need s.cx (.le (.iv 9) (.il 32)) ++ (need s.cx (.eq (.add b (.iv 9)) (.il 32)) ++ (need s.cx (.le (.il 0) a) ++ (need s.cx (.le (.add a (.pw (.iv 9))) (.il 4294967296)) ++ (need s.cx (.le (.il 0) x) ++ (need s.cx (.le x (.il 4294967295)) ++ (need s.cx (.le (.il 0) y) ++ need s.cx (.le y (.il 4294967295))))))))))
      else none
    | _ => none
  go := fun n0 s xs => match xs with
    | [.one (.agg [.int .u32 a, .int .i64 b]), .one (.c (.int .u64 x)), .one (.c (.int .u64 y))] =>
      if s.free s.nx && (s.free (s.nx + 1) && Nat.ble n0 s.nx) then some ({ s.growT s.nx 29 none pxLv (.ap 62 (pxT a b) x y) with cx := ⟨⟨tlen (.ap 62 (pxT a b) x y), 0, 4294967296⟩ :: s.cx.bs, s.cx.pc⟩ }, .one (.c (.slt s.nx 2 (.il 0) (tlen (.ap 62 (pxT a b) x y)) (.il 0))))
      else none
    | _ => none
theorem cvSp_ok {P : Program} {ρ : Env} {f : FuncId} (hF : ρ.f 62 = cvF 62) (E : 0 ≤ ρ.i 9 → CvRuns P f (ρ.i 9).toNat) : (cvSp f).Ok P ρ := by
  intro B s xs m s' v' hB hpre hgo hm β a w hM
  subst hB
  simp only [cvSp] at hpre hgo
  split at hgo
  · rename_i a1 b1 x y
    simp only [] at hpre
    split at hpre
    · injection hpre with hpre
      subst hpre
      split at hgo
      · rename_i q
        simp only [Bool.and_eq_true] at q
        injection hgo with hgo
        injection hgo with e1 e2
        subst e1 e2
        have n1 := le_of (need_ok hM.cx hm.l)
        have n2 := le_of (need_ok hM.cx hm.r.l)
        have n3 := need_ok hM.cx hm.r.r.l
        have n4 := le_of (need_ok hM.cx hm.r.r.r.l)
        have n5 := le_of (need_ok hM.cx hm.r.r.r.r.l)
        have n6 := le_of (need_ok hM.cx hm.r.r.r.r.r.l)
        have n7 := le_of (need_ok hM.cx hm.r.r.r.r.r.r.l)
        have n8 := le_of (need_ok hM.cx hm.r.r.r.r.r.r.r.l)
        have n9 := le_of (need_ok hM.cx hm.r.r.r.r.r.r.r.r)
        rw [t_eq] at n3
        change (0 : Int) ≤ B.ρ.i 9 at n1
        change B.ρ.i 9 ≤ (32 : Int) at n2
        change (den B.ρ b1).i + B.ρ.i 9 = (32 : Int) at n3
        change (0 : Int) ≤ _ at n4
        change (den B.ρ a1).i + 2 ^ (B.ρ.i 9).toNat ≤ (4294967296 : Int) at n5
        change (0 : Int) ≤ _ at n6
        change _ ≤ (4294967295 : Int) at n7
        change (0 : Int) ≤ _ at n8
        change _ ≤ (4294967295 : Int) at n9
        have hE : CvRuns P f (B.ρ.i 9).toNat := E n1
        obtain ⟨k, hk⟩ : ∃ k : Nat, B.ρ.i 9 = (k : Int) := ⟨(B.ρ.i 9).toNat, by omega⟩
        rw [hk, Int.toNat_natCast] at hE n5
        have hp : ((2 ^ k : Nat) : Int) = (2 : Int) ^ k := by simp
        obtain ⟨sn, hs⟩ : ∃ n : Nat, (den B.ρ a1).i = (n : Int) := ⟨(den B.ρ a1).i.toNat, by omega⟩
        obtain ⟨xn, hx⟩ : ∃ n : Nat, (den B.ρ x).i = (n : Int) := ⟨(den B.ρ x).i.toNat, by omega⟩
        obtain ⟨yn, hy⟩ : ∃ n : Nat, (den B.ρ y).i = (n : Int) := ⟨(den B.ρ y).i.toNat, by omega⟩
        have hpos := Nat.two_pow_pos k
        have hb : (den B.ρ b1).i = ((32 - k : Nat) : Int) := by omega
        have hcall := hE (w := w) (s := sn) (x := xn) (y := yn) (by omega) (by omega) (by omega)
        show Calls P f (#[.agg #[.int .u32 (den B.ρ a1).i, .int .i64 (den B.ρ b1).i], .int .u64 (den B.ρ x).i, .int .u64 (den B.ρ y).i]) w _
        rw [hs, hb, hx, hy]
        have eT : (den B.ρ (.ap 62 (pxT a1 b1) x y)).c = pxRows (halve k sn xn yn) := by
          show (B.ρ.f 62 _ _ _).c = _
          rw [hF]
          show pxRows (halve (32 - (IntKind.i64.wrap (den B.ρ b1).i).toNat) (IntKind.u32.wrap (den B.ρ a1).i).toNat (den B.ρ x).i.toNat (den B.ρ y).i.toNat) = _
          rw [hs, hb, hx, hy, wrap_in (k := .i64) (by show (-9223372036854775808 : Int) ≤ _; omega) (by show _ ≤ (9223372036854775807 : Int); omega), wrap_in (k := .u32) (by show (0 : Int) ≤ _; omega) (by show _ ≤ (4294967295 : Int); omega)]
          simp only [Int.toNat_natCast]
          rw [show 32 - (32 - k) = k from by omega]
        refine hcall.mono ?_
        rintro e w' ⟨v, rfl, hb1, g, c, rfl, hrow, hat⟩
        rw [← eT] at hrow
        have hM1 := Sy.Md.growT hM s.nx (Nat.le_of_ble_eq_true q.2.2) q.1 q.2.1 (g := 0) (c := 0) (old := none) (t := .ap 62 (pxT a1 b1) x y) ⟨hrow, ⟨hb1.os, hb1.tape, hb1.output, hb1.size, fun k hk _ => hb1.block k hk⟩, hat.imp id .inr⟩ rfl (.inl rfl)
        refine ⟨_, a, ?_, Sy.Md.bds hM1 [⟨tlen (.ap 62 (pxT a1 b1) x y), 0, 4294967296⟩] fun z hz => ?_⟩
        · congr 1
          show _ = C.den B.ρ _ (.slt s.nx 2 (.il 0) (tlen (.ap 62 (pxT a1 b1) x y)) (.il 0))
          rw [slt_den, upd_new, upd_old (show s.nx ≠ s.nx + 1 from by omega), upd_new, ← eT]
          show _ = sltZ g c _ ((0 : Int)).toNat ((((den B.ρ (.ap 62 (pxT a1 b1) x y)).c.length : Nat) : Int)).toNat ((0 : Int)).toNat
          rw [show ((0 : Int)).toNat = 0 from rfl, sltZ_zero, Int.toNat_natCast]
        · rw [List.mem_singleton.1 hz]
          show (0 : Int) ≤ (((den B.ρ (.ap 62 (pxT a1 b1) x y)).c.length : Nat) : Int) ∧ (((den B.ρ (.ap 62 (pxT a1 b1) x y)).c.length : Nat) : Int) ≤ (4294967296 : Int)
          rw [eT]
          have := halve_len k sn xn yn
          have h2 : 2 ^ k ≤ 2 ^ 32 := Nat.pow_le_pow_right (by decide) (by omega)
          have h3 : (2 : Nat) ^ 32 = 4294967296 := by decide
          unfold pxRows
          rw [List.length_map]
          omega
      · cases hgo
    · cases hpre
  · cases hgo
end Go.Proofs.YtagdnjhkoajbnaaDoor
