/- The reference's poller: low3, at, Set, Drop. -/
import Derived.Test.YtnjpoidpfcfbeaaPollD
namespace Go.Proofs.Ytnjpoidpfcfbeaa
open Go.RowKit Sy
set_option linter.unusedVariables false
set_option linter.unusedSimpArgs false

/-! low3. -/
def loSt : Sy.St := ⟨[], [], ⟨[i64B 20], []⟩, 4⟩
set_option maxRecDepth 100000 in
theorem lo_run : smR Try.prog Try.f74 4 (run Try.prog [] 10 400 4 (.code (bodyOf Try.f74)) (enterS Try.f74 [.one (.c (.int .i64 (.iv 20)))] loSt)) = some [.ret (.one (.c (.int .i64 (.add (.rem (.iv 20) (.il 8)) (.il 8))))) [] [.lt (.rem (.iv 20) (.il 8)) (.il 0)], .ret (.one (.c (.int .i64 (.rem (.iv 20) (.il 8))))) [] [.not (.lt (.rem (.iv 20) (.il 8)) (.il 0))]] := by kernel_rfl
theorem tmod8 (x : Int) : (Int.tmod x 8 < 0 → Int.tmod x 8 + 8 = x % 8) ∧ (¬ Int.tmod x 8 < 0 → Int.tmod x 8 = x % 8) := by
  have h := Int.mul_tdiv_add_tmod x 8
  have h1 := Int.tmod_lt_of_pos x (show (0 : Int) < 8 by decide)
  have h2 : -8 < Int.tmod x 8 := by
    have := Int.lt_tmod_of_pos x (show (0 : Int) < 8 by decide)
    exact this
  omega
theorem lo_calls (x : Int) (h0 : -9223372036854775808 ≤ x) (h1 : x ≤ 9223372036854775807) (w : World) : Calls Try.prog 74 #[.int .i64 x] w (RetP fun v w' => v = .int .i64 (x % 8) ∧ Below w.heap.size w w') := by
  have hM : Md ({ mkEnv0 [] [] [] [] with i := fun n => if n = 20 then x else 0 } : Env) (fun _ => False) w (fun _ => 0) 4 ⟨[], [], ⟨[i64B 20], []⟩, 4⟩ (fun _ => 0) ⟨#[], []⟩ w := Sy.Md.start ⟨bdsP_ok ⟨⟨h0, h1⟩, trivial⟩, fun _ h => by cases h⟩
  refine (calls_sm (B := ⟨{ mkEnv0 [] [] [] [] with i := fun n => if n = 20 then x else 0 }, fun _ => False, w, fun _ => 0, 4⟩) (sp := []) (fun i => rfl) (fun q hq => by cases hq) 10 400 Try.func74 rfl [.one (.c (.int .i64 (.iv 20)))] loSt _ 4 rfl lo_run hM (R := fun v w' => v = .int .i64 (x % 8) ∧ Below w.heap.size w w') ⟨?_, ?_, trivial⟩ rfl)
  · intro hpc β w2 hH
    refine ⟨?_, Sy.Only.below_all hH.only⟩
    have q := hpc.1
    rw [t_lt] at q
    show Value.int .i64 (Int.tmod x 8 + 8) = _
    rw [(tmod8 x).1 q]
  · intro hpc β w2 hH
    refine ⟨?_, Sy.Only.below_all hH.only⟩
    have q := hpc.1
    rw [t_not, t_lt] at q
    show Value.int .i64 (Int.tmod x 8) = _
    rw [(tmod8 x).2 q]
def loPre (c : Cx) : List SV → Option (List Tm)
  | [.one (.c (.int .i64 x))] => some (need c (.le (.il (-9223372036854775808)) x) ++ need c (.le x (.il 9223372036854775807)))
  | _ => none
def loRes (c : Cx) : List SV → Option (SV × List Bd)
  | [.one (.c (.int .i64 x))] => some (.one (.c (.int .i64 (.md x (.il 8)))), [])
  | _ => none
def loSp : Sy.Spec := pureSpec 74 loPre loRes
theorem loSp_ok {ρ : Env} : loSp.Ok Try.prog ρ := by
  refine pureSpec_ok fun c xs m v bs hc hpre hres hm => ?_
  unfold loPre at hpre
  split at hpre
  · rename_i x
    injection hpre with hpre
    subst hpre
    injection hres with hres
    injection hres with h1 h2
    subst h1 h2
    have m1 := le_of (need_ok hc hm.l)
    have m2 := le_of (need_ok hc hm.r)
    refine ⟨fun _ h => (by cases h), fun β w => (lo_calls (den ρ x).i m1 m2 w).mono ?_⟩
    rintro e w' ⟨v, rfl, rfl, hb⟩
    exact ⟨rfl, hb⟩
  · cases hpre
/-! at. -/
def ratSel (s : Sy.St) : List SV → Option Did
  | [.one (.c (.ptr l 0)), .one (.c (.int .i64 fd))] => match find l s.hp with
    | some ⟨_, ty, [x], _, none, .no⟩ => match tabC s.cx s.hp 139 waLv x with
      | some (ms, lt, t) => if Nat.beq ty 69 && !(Nat.beq l lt) then some ⟨ms ++ (need s.cx (.le (mkTL s.cx t) (.il 16)) ++ (need s.cx (.le (.il (-9223372036854775808)) fd) ++ need s.cx (.le fd (.il 9223372036854775807)))), [], [], [], .one (.c (.int .i64 (.ap 7 t fd (.il 0)))), [⟨.ap 7 t fd (.il 0), -1, 15⟩], none⟩ else none
      | none => none
    | _ => none
  | _ => none
def ratSp : Sy.Spec := chgSp 73 ratSel
theorem ratSp_ok {ρ : Env} (hf : ρ.f = poF) : ratSp.Ok Try.prog ρ := by
  refine chgSp_ok fun {s xs d} hs hc hm {β w} hb hne => ?_
  unfold ratSel at hs
  split at hs
  · rename_i l fd
    split at hs
    · rename_i l' ty x rw hfind
      split at hs
      · rename_i ms lt t h1
        split at hs
        · rename_i q
          simp only [Bool.and_eq_true] at q
          injection hs with hs
          subst hs
          obtain ⟨⟨d, hd, dl, dn⟩, a1, a2⟩ := tabC_ok (β := β) hb hc h1 hm.l
          have m1 := le_of (need_ok hc hm.r.l)
          have m2 := le_of (need_ok hc hm.r.r.l)
          have m3 := le_of (need_ok hc hm.r.r.r)
          rw [mkTL_ok hc] at m1
          change _ ≤ (16 : Int) at m1
          change (-9223372036854775808 : Int) ≤ _ at m2
          change _ ≤ (9223372036854775807 : Int) at m3
          have hmem := find_mem hfind
          have hl : l' = l := hmem.2
          subst hl
          have hty : ty = 69 := Nat.eq_of_beq_eq_true q.1
          subst hty
          have hB : Blk w (β l') 69 (denL ρ β [x]) := hb _ hmem.1
          change Blk w (β l') 69 [C.den ρ β x] at hB
          rw [a1] at hB
          have hap : (den ρ (.ap 7 t fd (.il 0))).i = ixOf (isFd (den ρ fd).i) (den ρ t).c := by
            show (ρ.f 7 _ _ _).i = _
            rw [hf]
            rfl
          have hne' : β (lt + 1) ≠ 0 → β l' ≠ β lt := fun hc0 => by
            have hll : l' ≠ d.l := fun e => by
              have := q.2
              rw [e, dl, Nat.beq_refl] at this
              cases this
            rw [← dl]
            exact (hne _ hmem.1 d hd hll (.inl rfl) (.inr (by rw [dl]; exact hc0))).ne
          refine ⟨fun y hy => ?_, (at_calls (fd := (den ρ fd).i) hB a2 m2 m3 (by omega) hne').mono ?_⟩
          · rw [List.mem_singleton.1 hy]
            show (-1 : Int) ≤ (den ρ (.ap 7 t fd (.il 0))).i ∧ (den ρ (.ap 7 t fd (.il 0))).i ≤ 15
            rw [hap]
            have := ixOf_bd (isFd (den ρ fd).i) (den ρ t).c
            omega
          · rintro e w' ⟨v, rfl, rfl, hb'⟩
            refine ⟨β, ?_, Only.of_below hb' _, fun _ _ => rfl, fun _ h => (by cases h), fun _ h => (by cases h), fun _ h => (by cases h), fun _ h => (by cases h), fun _ h => (by cases h), fun _ h => (by cases h)⟩
            show _ = Ending.returned (.int .i64 (den ρ (.ap 7 t fd (.il 0))).i)
            rw [hap]
        · cases hs
      · cases hs
    · cases hs
  · cases hs
end Go.Proofs.Ytnjpoidpfcfbeaa
/- The reference's poller: contracts of Set and Drop. -/
namespace Go.Proofs.Ytnjpoidpfcfbeaa
open Go.RowKit Sy
set_option linter.unusedVariables false
set_option linter.unusedSimpArgs false

/-- The reference's poller. -/
structure Rf (w : World) (g a c : Nat) (rows : List (List Value)) : Prop where
  obj : Blk w g 69 [sltV a c rows.length]
  tab : RowT w a c 139 waLv rows
  ne : c ≠ 0 → a ≠ g
  l16 : rows.length ≤ 16
def RfGo (w w' : World) (g a c : Nat) (rows' : List (List Value)) : Prop := ∃ a' c', Rf w' g a' c' rows' ∧ Only (poS g a c) w w' ∧ (c' ≠ 0 → (c ≠ 0 ∧ a' = a) ∨ w.heap.size ≤ a')
def rfBs : List Bd := [⟨tlen (.cv 0), 0, 16⟩, i64B 20, i64B 21]
def rfT (l : Nat) (t : Tm) : Bk := ⟨l, 139, [], true, none, .tab waLv t⟩
def rfO (l : Nat) (n : Tm) : Bk := ⟨0, 69, [.slt l 5 (.il 0) n (.il 0)], true, none, .no⟩
def rfHp : List Bk := [rfO 2 (tlen (.cv 0)), rfT 2 (.cv 0)]
def rfSt : Sy.St := ⟨[], rfHp, ⟨rfBs, []⟩, 40⟩
def rfE (rows : List (List Value)) (x y : Int) (e : Bool) : Env := { mkEnv0 [] [] [] [] with
  i := fun n => if n = 20 then x else if n = 21 then y else 0
  b := fun n => if n = 20 then e else false
  c := fun n => if n = 0 then rows else []
  f := poF }
def rfN (g a c : Nat) : Bn := fun l => if l = 0 then g else if l = 2 then a else if l = 3 then c else 0
section
variable {w : World} {g a c : Nat} {rows : List (List Value)} {x y : Int} {e : Bool}
theorem rf_bs (h : Rf w g a c rows) (hx0 : -9223372036854775808 ≤ x) (hx1 : x ≤ 9223372036854775807) (hy0 : -9223372036854775808 ≤ y) (hy1 : y ≤ 9223372036854775807) : Bds (rfE rows x y e) rfBs :=
  bdsP_ok ⟨⟨(show (0 : Int) ≤ (rows.length : Int) by omega), (show (rows.length : Int) ≤ 16 by have := h.l16; omega)⟩, ⟨hx0, hx1⟩, ⟨hy0, hy1⟩, trivial⟩
theorem rf_init (h : Rf w g a c rows) (hx0 : -9223372036854775808 ≤ x) (hx1 : x ≤ 9223372036854775807) (hy0 : -9223372036854775808 ≤ y) (hy1 : y ≤ 9223372036854775807) : Md (rfE rows x y e) (poS g a c) w (rfN g a c) 4 rfSt (rfN g a c) ⟨#[], []⟩ w := by
  refine Sy.Md.init ⟨?_, h.tab, trivial⟩ ⟨⟨fun _ hr => ?_, trivial⟩, trivial, trivial⟩ ⟨fun _ _ i hi => ?_, fun _ hr i hi => ?_, trivial⟩ ⟨rf_bs h hx0 hx1 hy0 hy1, fun t ht => by cases ht⟩ rfl
  · show Blk w g 69 [sltZ a c 5 0 ((rows.length : Int)).toNat 0]
    rw [sltZ_zero, Int.toNat_natCast]
    exact h.obj
  · exact apart.of rfl rfl (h.ne (hr.resolve_left (by simp [rfT, Bk.nilable, Xt.isTab]))).symm
  · exact .inl (fp_one rfl hi)
  · exact .inr ⟨hr.resolve_left (by simp [rfT, Bk.nilable, Xt.isTab]), fp_one rfl hi⟩
/-- What a leaf's blocks say. -/
theorem rf_leaf {ρ : Env} {hp : List Bk} {β : Bn} {w2 : World} (hH : Hp ρ (poS g a c) w (rfN g a c) 4 hp β w2) {l : Nat} {n t : Tm} (ho : rfO l n ∈ hp) (ht : rfT l t ∈ hp) (hl : l ≠ 0) {rows' : List (List Value)} (hn : (den ρ n).i = (rows'.length : Int)) (hr : (den ρ t).c = rows') (h16 : rows'.length ≤ 16) : RfGo w w2 g a c rows' := by
  have k0 : β 0 = g := hH.old 0 (show 0 < 4 by decide)
  have hT : RowT w2 (β l) (β (l + 1)) 139 waLv (den ρ t).c := hH.hp _ ht
  have hO : Blk w2 (β 0) 69 [C.den ρ β (.slt l 5 (.il 0) n (.il 0))] := hH.hp _ ho
  rw [slt_den] at hO
  have hO : Blk w2 (β 0) 69 [sltZ (β l) (β (l + 1)) 5 0 (den ρ n).i.toNat 0] := hO
  rw [hr] at hT
  rw [sltZ_zero, k0, hn, Int.toNat_natCast] at hO
  have n2 : β (l + 1) ≠ 0 → β l ≠ β 0 := fun hc => hH.neq _ ht _ ho hl (.inr hc) (.inl rfl)
  refine ⟨β l, β (l + 1), ⟨hO, hT, fun hc q => n2 hc (q.trans k0.symm), h16⟩, hH.only, fun hc => ?_⟩
  rcases hH.may0 _ ht rfl (.inr hc) with q | q
  · rcases q with q | q
    · exact absurd (q.trans k0.symm) (n2 hc)
    · exact .inl q
  · exact .inr q
def wRw (a m r e f : Tm) : Tm := .tb (.cons (.int .i64)) a (.tb (.cons (.int .i64)) m (.tb (.cons (.int .i64)) r (.tb (.cons .bool) e (.tb (.cons .bool) f (.tb .row (.il 0) (.il 0) (.il 0)) (.il 0)) (.il 0)) (.il 0)) (.il 0)) (.il 0)
def rsT1 : Tm := .tb .set (.tb .set (.tb .set (.tb .app (.cv 0) (wRw (.iv 20) (.il 0) (.il 0) (.bl false) (.bl false)) (.il 0)) (tlen (.cv 0)) (wRw (.iv 20) (.md (.iv 21) (.il 8)) (.il 0) (.bl false) (.bl false))) (tlen (.cv 0)) (wRw (.iv 20) (.md (.iv 21) (.il 8)) (.il 0) (.bv 20) (.bl false))) (tlen (.cv 0)) (wRw (.iv 20) (.md (.iv 21) (.il 8)) (.il 0) (.bv 20) (.bl true))
def gT (k : Nat) : Tm := .tb (.get (.int .i64) k) (.cv 0) (.ap 7 (.cv 0) (.iv 20) (.il 0)) (.il 0)
def gBt (k : Nat) : Tm := .tb (.get .bool k) (.cv 0) (.ap 7 (.cv 0) (.iv 20) (.il 0)) (.il 0)
def rsT2 : Tm := .tb .set (.tb .set (.tb .set (.cv 0) (.ap 7 (.cv 0) (.iv 20) (.il 0)) (wRw (gT 0) (.md (.iv 21) (.il 8)) (gT 2) (gBt 3) (gBt 4))) (.ap 7 (.cv 0) (.iv 20) (.il 0)) (wRw (gT 0) (.md (.iv 21) (.il 8)) (gT 2) (.bv 20) (gBt 4))) (.ap 7 (.cv 0) (.iv 20) (.il 0)) (wRw (gT 0) (.md (.iv 21) (.il 8)) (gT 2) (.bv 20) (.bl true))
def rsA : List SV := [.one (.c (.ptr 0 0)), .one (.c (.int .i64 (.iv 20))), .one (.c (.int .i64 (.iv 21))), .one (.c (.bool (.bv 20)))]
set_option maxRecDepth 100000 in
theorem rs_run : smR Try.prog Try.f37 4 (run Try.prog [ratSp, loSp] 10 400 4 (.code (bodyOf Try.f37)) (enterS Try.f37 rsA rfSt)) = some [
  .ret (.one (.c (.int .i64 (.il 1)))) rfHp [.lt (.il 15) (.iv 20), .not (.lt (.iv 20) (.il 0))],
  .ret (.one (.c (.int .i64 (.il 9)))) rfHp [.lt (.il 15) (tlen (.cv 0)), .lt (.ap 7 (.cv 0) (.iv 20) (.il 0)) (.il 0), .not (.lt (.il 15) (.iv 20)), .not (.lt (.iv 20) (.il 0))],
  .ret (.one (.c (.int .i64 (.il 0)))) [rfT 42 rsT1, rfO 42 (.add (tlen (.cv 0)) (.il 1))] [.not (.lt (.il 15) (tlen (.cv 0))), .lt (.ap 7 (.cv 0) (.iv 20) (.il 0)) (.il 0), .not (.lt (.il 15) (.iv 20)), .not (.lt (.iv 20) (.il 0))],
  .must (.lt (.ap 7 (.cv 0) (.iv 20) (.il 0)) (tlen (.cv 0))) [.not (.lt (.ap 7 (.cv 0) (.iv 20) (.il 0)) (.il 0)), .not (.lt (.il 15) (.iv 20)), .not (.lt (.iv 20) (.il 0))],
  .must (.lt (.ap 7 (.cv 0) (.iv 20) (.il 0)) (tlen (.cv 0))) [.lt (.ap 7 (.cv 0) (.iv 20) (.il 0)) (tlen (.cv 0)), .not (.lt (.ap 7 (.cv 0) (.iv 20) (.il 0)) (.il 0)), .not (.lt (.il 15) (.iv 20)), .not (.lt (.iv 20) (.il 0))],
  .ret (.one (.c (.int .i64 (.il 0)))) [rfO 2 (tlen (.cv 0)), rfT 2 rsT2] [.lt (.ap 7 (.cv 0) (.iv 20) (.il 0)) (tlen (.cv 0)), .lt (.ap 7 (.cv 0) (.iv 20) (.il 0)) (tlen (.cv 0)), .not (.lt (.ap 7 (.cv 0) (.iv 20) (.il 0)) (.il 0)), .not (.lt (.il 15) (.iv 20)), .not (.lt (.iv 20) (.il 0))],
  .ret (.one (.c (.int .i64 (.il 1)))) rfHp [.lt (.iv 20) (.il 0)]] := by kernel_rfl
def RsPost (w : World) (g a c : Nat) (rows : List (List Value)) (x y : Int) (e : Bool) (v : Value) (w' : World) : Prop := v = .int .i64 (setC rows x) ∧ RfGo w w' g a c (setR rows x y e)
theorem set_last {α : Type} (l : List α) (x y : α) : (l ++ [x]).set l.length y = l ++ [y] := by
  rw [List.set_append_right _ _ (Nat.le_refl _), Nat.sub_self]
  rfl
set_option maxRecDepth 100000 in
/-- The reference's Set. -/
theorem rset_calls (h : Rf w g a c rows) (hx0 : -9223372036854775808 ≤ x) (hx1 : x ≤ 9223372036854775807) (hy0 : -9223372036854775808 ≤ y) (hy1 : y ≤ 9223372036854775807) :
    Calls Try.prog 37 #[.pointer (some ⟨g, 0, none⟩), .int .i64 x, .int .i64 y, .bool e] w (RetP (RsPost w g a c rows x y e)) := by
  have hix : (den (rfE rows x y e) (.ap 7 (.cv 0) (.iv 20) (.il 0))).i = ixOf (isFd x) rows := rfl
  have hln : (den (rfE rows x y e) (tlen (.cv 0))).i = (rows.length : Int) := rfl
  have hbd := ixOf_bd (isFd x) rows
  have l16 := h.l16
  have b1 : ∀ β w2, Hp (rfE rows x y e) (poS g a c) w (rfN g a c) 4 rfHp β w2 → RfGo w w2 g a c rows := fun β w2 hH => rf_leaf hH (List.mem_cons_self ..) (List.mem_cons_of_mem _ (List.mem_cons_self ..)) (by decide) rfl rfl l16
  refine (calls_sm (B := ⟨rfE rows x y e, poS g a c, w, rfN g a c, 4⟩) (sp := [ratSp, loSp]) (fun i => rfl) (fun q hq => by
    simp only [List.mem_cons, List.not_mem_nil, or_false] at hq
    rcases hq with rfl | rfl
    · exact ratSp_ok rfl
    · exact loSp_ok) 10 400 Try.func37 rfl rsA rfSt _ 4 rfl rs_run (rf_init h hx0 hx1 hy0 hy1) (R := RsPost w g a c rows x y e) ⟨?_, ?_, ?_, ?_, ?_, ?_, ?_, trivial⟩ rfl)
  · intro hpc β w2 hH
    have q := hpc.1
    rw [t_lt] at q
    change (15 : Int) < x at q
    refine ⟨?_, ?_⟩
    · show Value.int .i64 1 = _
      unfold setC
      rw [if_pos (.inr (by omega))]
    · unfold setR
      rw [if_pos (.inr (by omega))]
      exact b1 β w2 hH
  · intro hpc β w2 hH
    obtain ⟨q1, q2, q3, q4, _⟩ := hpc
    rw [t_lt, hln] at q1
    rw [t_lt, hix] at q2
    rw [t_not, t_lt] at q3 q4
    change (15 : Int) < _ at q1
    change _ < (0 : Int) at q2
    change ¬ (15 : Int) < x at q3
    change ¬ x < 0 at q4
    refine ⟨?_, ?_⟩
    · show Value.int .i64 9 = _
      unfold setC
      rw [if_neg (by omega), if_pos ⟨q2, by omega⟩]
    · unfold setR
      rw [if_neg (by omega), if_pos q2, if_pos (by omega)]
      exact b1 β w2 hH
  · intro hpc β w2 hH
    obtain ⟨q1, q2, q3, q4, _⟩ := hpc
    rw [t_not, t_lt, hln] at q1
    rw [t_lt, hix] at q2
    rw [t_not, t_lt] at q3 q4
    change ¬ (15 : Int) < _ at q1
    change _ < (0 : Int) at q2
    change ¬ (15 : Int) < x at q3
    change ¬ x < 0 at q4
    refine ⟨?_, ?_⟩
    · show Value.int .i64 0 = _
      unfold setC
      rw [if_neg (by omega), if_neg (by omega)]
    · unfold setR
      rw [if_neg (by omega), if_pos q2, if_neg (by omega)]
      refine rf_leaf hH (l := 42) (n := .add (tlen (.cv 0)) (.il 1)) (t := rsT1) (List.mem_cons_of_mem _ (List.mem_cons_self ..)) (List.mem_cons_self ..) (by decide) ?_ ?_ (by rw [List.length_append]; show _ + 1 ≤ 16; omega)
      · rw [List.length_append]
        show (rows.length : Int) + 1 = ((rows.length + 1 : Nat) : Int)
        omega
      · show (((rows ++ [[Value.int .i64 x, .int .i64 0, .int .i64 0, .bool false, .bool false]]).set ((rows.length : Int)).toNat [Value.int .i64 x, .int .i64 (y % 8), .int .i64 0, .bool false, .bool false]).set ((rows.length : Int)).toNat [Value.int .i64 x, .int .i64 (y % 8), .int .i64 0, .bool e, .bool false]).set ((rows.length : Int)).toNat [Value.int .i64 x, .int .i64 (y % 8), .int .i64 0, .bool e, .bool true] = _
        rw [Int.toNat_natCast, List.set_set, List.set_set, set_last]
        rfl
  · intro hpc
    rw [t_lt, hix, hln]
    exact hbd.2
  · intro hpc
    rw [t_lt, hix, hln]
    exact hbd.2
  · intro hpc β w2 hH
    obtain ⟨q1, _, q2, q3, q4, _⟩ := hpc
    rw [t_not, t_lt, hix] at q2
    rw [t_not, t_lt] at q3 q4
    change ¬ _ < (0 : Int) at q2
    change ¬ (15 : Int) < x at q3
    change ¬ x < 0 at q4
    refine ⟨?_, ?_⟩
    · show Value.int .i64 0 = _
      unfold setC
      rw [if_neg (by omega), if_neg (by omega)]
    · unfold setR
      rw [if_neg (by omega), if_neg q2]
      refine rf_leaf hH (l := 2) (n := (tlen (.cv 0))) (t := rsT2) (List.mem_cons_self ..) (List.mem_cons_of_mem _ (List.mem_cons_self ..)) (by decide) (by rw [List.length_set]; rfl) ?_ (by rw [List.length_set]; exact l16)
      obtain ⟨k, hk⟩ : ∃ k, k = (ixOf (isFd x) rows).toNat := ⟨_, rfl⟩
      rw [← hk]
      show (((rows.set (ixOf (isFd x) rows).toNat _).set (ixOf (isFd x) rows).toNat _).set (ixOf (isFd x) rows).toNat [Value.int .i64 (gI .i64 (rows.getD (ixOf (isFd x) rows).toNat []) 0), .int .i64 (y % 8), .int .i64 (gI .i64 (rows.getD (ixOf (isFd x) rows).toNat []) 2), .bool e, .bool true]) = _
      rw [List.set_set, List.set_set, ← hk]
      rfl
  · intro hpc β w2 hH
    have q := hpc.1
    rw [t_lt] at q
    change x < (0 : Int) at q
    refine ⟨?_, ?_⟩
    · show Value.int .i64 1 = _
      unfold setC
      rw [if_pos (.inl q)]
    · unfold setR
      rw [if_pos (.inl q)]
      exact b1 β w2 hH
/-! Drop. -/
def rdHi : Tm := .add (.add (.ap 7 (.cv 0) (.iv 20) (.il 0)) (.sub (tlen (.cv 0)) (.add (.ap 7 (.cv 0) (.iv 20) (.il 0)) (.il 1)))) (.il 1)
def rdC2 : Tm := .tb .cut (.cv 0) (.add (.ap 7 (.cv 0) (.iv 20) (.il 0)) (.il 1)) rdHi
def rdT : Tm := .tb .app (.tb .cut (.cv 0) (.il 0) (.ap 7 (.cv 0) (.iv 20) (.il 0))) rdC2 (.il 0)
def rdM : Tm := .le (.mul (.add (.ap 7 (.cv 0) (.iv 20) (.il 0)) (tlen rdC2)) (.il 32)) (.il 140737488355328)
set_option maxRecDepth 100000 in
theorem rd_run : smR Try.prog Try.f39 4 (run Try.prog [ratSp, loSp] 10 400 4 (.code (bodyOf Try.f39)) (enterS Try.f39 (rsA.take 2) rfSt)) = some [
  .ret (.one (.c (.int .i64 (.il 7)))) rfHp [.lt (.ap 7 (.cv 0) (.iv 20) (.il 0)) (.il 0)],
  .must (.le (.ap 7 (.cv 0) (.iv 20) (.il 0)) (tlen (.cv 0))) [(.not (.lt (.ap 7 (.cv 0) (.iv 20) (.il 0)) (.il 0)))], .must (.le (.add (.ap 7 (.cv 0) (.iv 20) (.il 0)) (.il 1)) (tlen (.cv 0))) [(.le (.ap 7 (.cv 0) (.iv 20) (.il 0)) (tlen (.cv 0))), (.not (.lt (.ap 7 (.cv 0) (.iv 20) (.il 0)) (.il 0)))], .must (.le (.add (.ap 7 (.cv 0) (.iv 20) (.il 0)) (.il 1)) (tlen (.cv 0))) [(.le (.ap 7 (.cv 0) (.iv 20) (.il 0)) (tlen (.cv 0))), (.not (.lt (.ap 7 (.cv 0) (.iv 20) (.il 0)) (.il 0)))], .must (.le (.add (.ap 7 (.cv 0) (.iv 20) (.il 0)) (.il 1)) (tlen (.cv 0))) [(.not (.lt (.ap 7 (.cv 0) (.iv 20) (.il 0)) (.il 0)))], .must (.le (.ap 7 (.cv 0) (.iv 20) (.il 0)) (tlen (.cv 0))) [(.le (.add (.ap 7 (.cv 0) (.iv 20) (.il 0)) (.il 1)) (tlen (.cv 0))), (.not (.lt (.ap 7 (.cv 0) (.iv 20) (.il 0)) (.il 0)))], .must (.le rdHi (tlen (.cv 0))) [(.le (.ap 7 (.cv 0) (.iv 20) (.il 0)) (tlen (.cv 0))), (.le (.add (.ap 7 (.cv 0) (.iv 20) (.il 0)) (.il 1)) (tlen (.cv 0))), (.not (.lt (.ap 7 (.cv 0) (.iv 20) (.il 0)) (.il 0)))], .must rdM [(.le rdHi (tlen (.cv 0))), (.le (.ap 7 (.cv 0) (.iv 20) (.il 0)) (tlen (.cv 0))), (.le (.add (.ap 7 (.cv 0) (.iv 20) (.il 0)) (.il 1)) (tlen (.cv 0))), (.not (.lt (.ap 7 (.cv 0) (.iv 20) (.il 0)) (.il 0)))],
  .ret (.one (.c (.int .i64 (.il 0)))) [rfT 70 rdT, rfO 70 (.add (.ap 7 (.cv 0) (.iv 20) (.il 0)) (tlen rdC2)), rfT 2 (.cv 0)] [rdM, (.le rdHi (tlen (.cv 0))), (.le (.ap 7 (.cv 0) (.iv 20) (.il 0)) (tlen (.cv 0))), (.le (.add (.ap 7 (.cv 0) (.iv 20) (.il 0)) (.il 1)) (tlen (.cv 0))), (.not (.lt (.ap 7 (.cv 0) (.iv 20) (.il 0)) (.il 0)))]] := by kernel_rfl
def RdPost (w : World) (g a c : Nat) (rows : List (List Value)) (x : Int) (v : Value) (w' : World) : Prop := v = .int .i64 (drpC rows x) ∧ RfGo w w' g a c (drpR rows x)
set_option maxRecDepth 100000 in
/-- The reference's Drop. -/
theorem rdrp_calls (h : Rf w g a c rows) (hx0 : -9223372036854775808 ≤ x) (hx1 : x ≤ 9223372036854775807) :
    Calls Try.prog 39 #[.pointer (some ⟨g, 0, none⟩), .int .i64 x] w (RetP (RdPost w g a c rows x)) := by
  have hix : (den (rfE rows x 0 false) (.ap 7 (.cv 0) (.iv 20) (.il 0))).i = ixOf (isFd x) rows := rfl
  have hln : (den (rfE rows x 0 false) (tlen (.cv 0))).i = (rows.length : Int) := rfl
  have hi1 : (den (rfE rows x 0 false) (.add (.ap 7 (.cv 0) (.iv 20) (.il 0)) (.il 1))).i = ixOf (isFd x) rows + 1 := rfl
  have hhi : (den (rfE rows x 0 false) rdHi).i = (ixOf (isFd x) rows + ((rows.length : Int) - (ixOf (isFd x) rows + 1))) + 1 := rfl
  have hbd := ixOf_bd (isFd x) rows
  have l16 := h.l16
  have hc2 : (den (rfE rows x 0 false) rdC2).c = (rows.drop (ixOf (isFd x) rows + 1).toNat).take (((ixOf (isFd x) rows + ((rows.length : Int) - (ixOf (isFd x) rows + 1))) + 1).toNat - (ixOf (isFd x) rows + 1).toNat) := rfl
  have hl2 : ((den (rfE rows x 0 false) rdC2).c.length : Int) ≤ 16 := by
    rw [hc2, List.length_take, List.length_drop]
    omega
  refine (calls_sm (B := ⟨rfE rows x 0 false, poS g a c, w, rfN g a c, 4⟩) (sp := [ratSp, loSp]) (fun i => rfl) (fun q hq => by
    simp only [List.mem_cons, List.not_mem_nil, or_false] at hq
    rcases hq with rfl | rfl
    · exact ratSp_ok rfl
    · exact loSp_ok) 10 400 Try.func39 rfl (rsA.take 2) rfSt _ 4 rfl rd_run (rf_init h hx0 hx1 (by decide) (by decide)) (R := RdPost w g a c rows x) ⟨?_, ?_, ?_, ?_, ?_, ?_, ?_, ?_, ?_, trivial⟩ rfl)
  · intro hpc β w2 hH
    have q := hpc.1
    rw [t_lt, hix] at q
    change _ < (0 : Int) at q
    refine ⟨?_, ?_⟩
    · show Value.int .i64 7 = _
      unfold drpC
      rw [if_pos q]
    · unfold drpR
      rw [if_pos q]
      exact rf_leaf hH (List.mem_cons_self ..) (List.mem_cons_of_mem _ (List.mem_cons_self ..)) (by decide) rfl rfl l16
  · intro hpc
    rw [t_le, hix, hln]
    omega
  · intro hpc
    rw [t_le, hi1, hln]
    omega
  · intro hpc
    rw [t_le, hi1, hln]
    omega
  · intro hpc
    rw [t_le, hi1, hln]
    omega
  · intro hpc
    rw [t_le, hix, hln]
    omega
  · intro hpc
    rw [t_le, hhi, hln]
    omega
  · intro hpc
    unfold rdM
    rw [t_le]
    show (ixOf (isFd x) rows + ((den (rfE rows x 0 false) rdC2).c.length : Int)) * 32 ≤ 140737488355328
    omega
  · intro hpc β w2 hH
    obtain ⟨_, _, _, _, q, _⟩ := hpc
    rw [t_not, t_lt, hix] at q
    change ¬ _ < (0 : Int) at q
    obtain ⟨k, hk⟩ : ∃ k : Nat, ixOf (isFd x) rows = (k : Int) := ⟨(ixOf (isFd x) rows).toNat, by omega⟩
    have hkr : k < rows.length := by omega
    refine ⟨?_, ?_⟩
    · show Value.int .i64 0 = _
      unfold drpC
      rw [if_neg q]
    · unfold drpR
      rw [if_neg q, hk, Int.toNat_natCast]
      have e2 : (den (rfE rows x 0 false) rdC2).c = rows.drop (k + 1) := by
        rw [hc2, hk]
        have : ((k : Int) + 1).toNat = k + 1 := by omega
        rw [this, List.take_of_length_le (by rw [List.length_drop]; omega)]
      have el : (rows.eraseIdx k).length = rows.length - 1 := by rw [List.length_eraseIdx, if_pos hkr]
      refine rf_leaf hH (l := 70) (n := .add (.ap 7 (.cv 0) (.iv 20) (.il 0)) (tlen rdC2)) (t := rdT) (List.mem_cons_of_mem _ (List.mem_cons_self ..)) (List.mem_cons_self ..) (by decide) ?_ ?_ (by omega)
      · show ixOf (isFd x) rows + ((den (rfE rows x 0 false) rdC2).c.length : Int) = _
        rw [e2, hk, el, List.length_drop]
        omega
      · show (rows.drop 0).take ((ixOf (isFd x) rows).toNat - 0) ++ (den (rfE rows x 0 false) rdC2).c = _
        rw [e2, hk, Int.toNat_natCast, List.drop_zero, Nat.sub_zero, List.eraseIdx_eq_take_drop_succ]
end
end Go.Proofs.Ytnjpoidpfcfbeaa
/- The reference's poller: contract of Note. -/
namespace Go.Proofs.Ytnjpoidpfcfbeaa
open Go.RowKit Sy
set_option linter.unusedVariables false
set_option linter.unusedSimpArgs false

def rnP : List Nat := [1, 1, 1, 0, 1, 2]
def rnR0 (P : Program) (fn : Func) : Rs := run P [ratSp, loSp] 10 400 4 (.code (pre rnP (bodyOf fn))) (enterS fn (rsA.take 3) rfSt)
def g1T (k : Nat) : Tm := .tb (.get (.int .i64) k) (.cv 1) (.iv 22) (.il 0)
def g1B (k : Nat) : Tm := .tb (.get .bool k) (.cv 1) (.iv 22) (.il 0)
def rnPc : List Tm := [.lt (.iv 22) (tlen (.cv 1)), .lt (.iv 22) (.iv 24), .le (.iv 24) (tlen (.cv 1)), .le (tlen (.cv 1)) (.iv 24)]
def rnCx : Cx := ⟨[⟨.iv 22, 0, 15⟩, ⟨tlen (.cv 1), 0, 16⟩, ⟨.iv 24, 0, 16⟩, ⟨.iv 23, 0, 7⟩, ⟨.iv 0, 1, 8⟩, ⟨g1T 2, 0, 7⟩], rnPc⟩
def rnHp : List Bk := [rfO 2 (.iv 24), rfT 2 (.cv 1)]
def rnT (P : Program) (fn : Func) : Sy.St := ⟨(tplK (lfAt (rnR0 P fn) 1) [0] [(2, .one (.c (.int .i64 (.iv 23)))), (6, .one (.c (.int .i64 (.iv 22)))), (7, .one (.c (.int .i64 (.iv 0))))] [] rnCx 40).tm, rnHp, rnCx, 40⟩
def rnL (fn : Func) : Code := lpBody (Sy.sub rnP (bodyOf fn))
def rnR1 (P : Program) (fn : Func) : Rs := run P [] 10 400 4 (.code (rnL fn)) (rnT P fn)
def rnFr : Tm := .tb .set (.cv 1) (.iv 22) (wRw (g1T 0) (g1T 1) (g1T 2) (g1B 3) (.bl true))
def rnEn : Tm := .tb .set (.cv 1) (.iv 22) (wRw (g1T 0) (g1T 1) (.iv 23) (g1B 3) (g1B 4))
set_option maxRecDepth 100000 in
theorem rn_run0 : shR 4 none (rnR0 Try.prog Try.f41) = some [.out 0 .ret [.lt (.ap 7 (.cv 0) (.iv 20) (.il 0)) (.il 0)], .out 1 .normal [.not (.lt (.ap 7 (.cv 0) (.iv 20) (.il 0)) (.il 0))]] := by kernel_rfl
set_option maxRecDepth 100000 in
theorem rn_ret0 : retsB Try.prog Try.f41 (rnR0 Try.prog Try.f41) (.tup []) [0] = true := by kernel_rfl
set_option maxRecDepth 100000 in
theorem rn_hp0 : (lfAt (rnR0 Try.prog Try.f41) 0).hp = rfHp := by kernel_rfl
set_option maxRecDepth 100000 in
theorem rn_match : (matchS 4 (rnT Try.prog Try.f41) (lfAt (rnR0 Try.prog Try.f41) 1)).map noU = some [.i 23 (.md (.iv 21) (.il 8)), .i 22 (.ap 7 (.cv 0) (.iv 20) (.il 0)), .i 0 (.il 1), .i 24 (tlen (.cv 0)), .c 1 (.cv 0)] := by kernel_rfl
set_option maxRecDepth 100000 in
theorem rn_loop : Sy.sub rnP (bodyOf Try.f41) = .loop (rnL Try.f41) := by kernel_rfl
set_option maxRecDepth 100000 in
theorem rn_run1 : shR 4 (some (rnT Try.prog Try.f41)) (rnR1 Try.prog Try.f41) = some [.back [(.i 0 (.mul (.iv 0) (.il 2))), .c 1 rnFr] ([(.eq (.md (.dv (g1T 2) (.iv 0)) (.il 2)) (.il 0)), (.eq (.md (.dv (.iv 23) (.iv 0)) (.il 2)) (.il 1)), (.lt (.iv 0) (.il 8))] ++ rnPc), .back [(.i 0 (.mul (.iv 0) (.il 2)))] ([.not (.eq (.md (.dv (g1T 2) (.iv 0)) (.il 2)) (.il 0)), (.eq (.md (.dv (.iv 23) (.iv 0)) (.il 2)) (.il 1)), (.lt (.iv 0) (.il 8))] ++ rnPc), .back [(.i 0 (.mul (.iv 0) (.il 2)))] ([.not (.eq (.md (.dv (.iv 23) (.iv 0)) (.il 2)) (.il 1)), (.lt (.iv 0) (.il 8))] ++ rnPc), .out 3 (.exit 0) (.not (.lt (.iv 0) (.il 8)) :: rnPc)] := by kernel_rfl
set_option maxRecDepth 100000 in
theorem rn_run2 : smR Try.prog Try.f41 4 (run Try.prog [] 10 400 4 (.code (aft (.exit 0) rnP (bodyOf Try.f41))) (lfAt (rnR1 Try.prog Try.f41) 3)) = some [.ret (.tup []) [rfO 2 (.iv 24), rfT 2 rnEn] (.not (.lt (.iv 0) (.il 8)) :: rnPc)] := by kernel_rfl
/-- A row of that kind is told by its cells. -/
theorem row_eq {r : List Value} (h : kAll waLv r) : r = [.int .i64 (gI .i64 r 0), .int .i64 (gI .i64 r 1), .int .i64 (gI .i64 r 2), .bool (gB r 3), .bool (gB r 4)] := by
  obtain ⟨v0, r0, rfl, h0, h⟩ := kAll_cons h
  obtain ⟨v1, r1, rfl, h1, h⟩ := kAll_cons h
  obtain ⟨v2, r2, rfl, h2, h⟩ := kAll_cons h
  obtain ⟨v3, r3, rfl, h3, h⟩ := kAll_cons h
  obtain ⟨v4, r4, rfl, h4, h⟩ := kAll_cons h
  rw [kAll_nil h]
  show [v0, v1, v2, v3, v4] = [Value.int .i64 (getV (.int .i64) v0).i, .int .i64 (getV (.int .i64) v1).i, .int .i64 (getV (.int .i64) v2).i, .bool (getV .bool v3).b, .bool (getV .bool v4).b]
  rw [getV_int h0, getV_int h1, getV_int h2, getV_bool h3, getV_bool h4]
def frR (r : List Value) (f : Bool) : List Value := [.int .i64 (gI .i64 r 0), .int .i64 (gI .i64 r 1), .int .i64 (gI .i64 r 2), .bool (gB r 3), .bool f]
theorem frR_g (r : List Value) (f : Bool) : gI .i64 (frR r f) 0 = gI .i64 r 0 ∧ gI .i64 (frR r f) 1 = gI .i64 r 1 ∧ gI .i64 (frR r f) 2 = gI .i64 r 2 :=
  ⟨gI_lit rfl (gI_bd (k := .i64) r 0).1 (gI_bd (k := .i64) r 0).2, gI_lit rfl (gI_bd (k := .i64) r 1).1 (gI_bd (k := .i64) r 1).2, gI_lit rfl (gI_bd (k := .i64) r 2).1 (gI_bd (k := .i64) r 2).2⟩
/-- What is seen of the bits below b. -/
def parB (m r b : Int) : Bool := decide ((1 < b ∧ m % 2 = 1 ∧ r % 2 = 0) ∨ (2 < b ∧ m / 2 % 2 = 1 ∧ r / 2 % 2 = 0) ∨ (4 < b ∧ m / 4 % 2 = 1 ∧ r / 4 % 2 = 0))
theorem parB_8 (m r : Int) : parB m r 8 = nwB m r := by
  unfold parB nwB
  congr 1
  simp
theorem parB_1 (m r : Int) : parB m r 1 = false := by
  unfold parB
  simp
theorem parB_step {m r b : Int} (hb : b = 1 ∨ b = 2 ∨ b = 4) : parB m r (b * 2) = (parB m r b || decide (m / b % 2 = 1 ∧ r / b % 2 = 0)) := by
  unfold parB
  rw [← Bool.decide_or]
  congr 1
  rcases hb with rfl | rfl | rfl <;> simp <;> omega
structure RnI (rows : List (List Value)) (k : Nat) (m : Int) (ρ : Env) : Prop where
  good : ρ.good
  i22 : ρ.i 22 = (k : Int)
  i23 : ρ.i 23 = m
  i24 : ρ.i 24 = (rows.length : Int)
  i0 : ρ.i 0 = 1 ∨ ρ.i 0 = 2 ∨ ρ.i 0 = 4 ∨ ρ.i 0 = 8
  c1 : ρ.c 1 = rows.set k (frR (rows.getD k []) (gB (rows.getD k []) 4 || parB m (gI .i64 (rows.getD k []) 2) (ρ.i 0)))
section
variable {w : World} {g a c : Nat} {rows : List (List Value)} {x y : Int} {k : Nat} {m : Int} {ρ : Env}
theorem RnI.row (I : RnI rows k m ρ) (hk : k < rows.length) : (ρ.c 1).getD (ρ.i 22).toNat [] = frR (rows.getD k []) (gB (rows.getD k []) 4 || parB m (gI .i64 (rows.getD k []) 2) (ρ.i 0)) := by
  rw [I.i22, Int.toNat_natCast, I.c1, List.getD_eq_getElem?_getD, List.getElem?_set_self hk]
  rfl
theorem RnI.gi (I : RnI rows k m ρ) (hk : k < rows.length) (j : Nat) : (den ρ (g1T j)).i = gI .i64 (frR (rows.getD k []) (gB (rows.getD k []) 4 || parB m (gI .i64 (rows.getD k []) 2) (ρ.i 0))) j := by
  show (getV (.int .i64) (((ρ.c 1).getD (ρ.i 22).toNat []).getD j (.bool false))).i = _
  rw [I.row hk]
  rfl
theorem RnI.gb (I : RnI rows k m ρ) (hk : k < rows.length) (j : Nat) : (den ρ (g1B j)).b = gB (frR (rows.getD k []) (gB (rows.getD k []) 4 || parB m (gI .i64 (rows.getD k []) 2) (ρ.i 0))) j := by
  show (getV .bool (((ρ.c 1).getD (ρ.i 22).toNat []).getD j (.bool false))).b = _
  rw [I.row hk]
  rfl
theorem RnI.cx (I : RnI rows k m ρ) (hk : k < rows.length) (l16 : rows.length ≤ 16) (hg : ∀ r ∈ rows, WRow r) (hm : 0 ≤ m ∧ m ≤ 7) : rnCx.ok ρ := by
  have hl : (ρ.c 1).length = rows.length := by rw [I.c1, List.length_set]
  have hmem : rows.getD k [] ∈ rows := by rw [List.getD_eq_getElem?_getD, List.getElem?_eq_getElem hk]; exact List.getElem_mem _
  have hr := hg _ hmem
  have i22 := I.i22
  have i24 := I.i24
  refine ⟨bdsP_ok ⟨?_, ?_, ?_, ?_, ?_, ?_, trivial⟩, pcs_all ⟨?_, ?_, ?_, ?_, trivial⟩⟩
  · show (0 : Int) ≤ ρ.i 22 ∧ ρ.i 22 ≤ 15
    omega
  · show (0 : Int) ≤ ((ρ.c 1).length : Int) ∧ ((ρ.c 1).length : Int) ≤ 16
    omega
  · show (0 : Int) ≤ ρ.i 24 ∧ ρ.i 24 ≤ 16
    omega
  · show (0 : Int) ≤ ρ.i 23 ∧ ρ.i 23 ≤ 7
    rw [I.i23]; exact hm
  · show (1 : Int) ≤ ρ.i 0 ∧ ρ.i 0 ≤ 8
    have := I.i0
    omega
  · show (0 : Int) ≤ (den ρ (g1T 2)).i ∧ (den ρ (g1T 2)).i ≤ 7
    rw [I.gi hk, (frR_g _ _).2.2]
    exact ⟨hr.r0, hr.r1⟩
  · rw [t_lt]
    show ρ.i 22 < ((ρ.c 1).length : Int)
    omega
  · rw [t_lt]
    show ρ.i 22 < ρ.i 24
    omega
  · rw [t_le]
    show ρ.i 24 ≤ ((ρ.c 1).length : Int)
    omega
  · rw [t_le]
    show ((ρ.c 1).length : Int) ≤ ρ.i 24
    omega
theorem set_self {α : Type} (l : List α) (k : Nat) (d : α) (hk : k < l.length) : l.set k (l.getD k d) = l := by
  apply List.ext_getElem?
  intro j
  by_cases hj : k = j
  · subst hj
    rw [List.getElem?_set_self hk, List.getD_eq_getElem?_getD, List.getElem?_eq_getElem hk]
    rfl
  · rw [List.getElem?_set_ne hj]
def RnPost (w : World) (g a c : Nat) (rows : List (List Value)) (x y : Int) (v : Value) (w' : World) : Prop := v = .tuple #[] ∧ RfGo w w' g a c (notR rows x y)
set_option maxRecDepth 100000 in
set_option maxHeartbeats 1000000 in
/-- The reference's Note. -/
theorem rnot_calls (h : Rf w g a c rows) (hg : ∀ r ∈ rows, WRow r) (hx0 : -9223372036854775808 ≤ x) (hx1 : x ≤ 9223372036854775807) (hy0 : -9223372036854775808 ≤ y) (hy1 : y ≤ 9223372036854775807) :
    Calls Try.prog 41 #[.pointer (some ⟨g, 0, none⟩), .int .i64 x, .int .i64 y] w (RetP (RnPost w g a c rows x y)) := by
  have hix : (den (rfE rows x y false) (.ap 7 (.cv 0) (.iv 20) (.il 0))).i = ixOf (isFd x) rows := rfl
  have hbd := ixOf_bd (isFd x) rows
  have l16 := h.l16
  refine calls_pre (B := ⟨rfE rows x y false, poS g a c, w, rfN g a c, 4⟩) (sp := [ratSp, loSp]) (p := rnP) (xs := rsA.take 3) (s := rfSt) (r := rnR0 Try.prog Try.f41) (fun i => rfl) (fun q hq => by
    simp only [List.mem_cons, List.not_mem_nil, or_false] at hq
    rcases hq with rfl | rfl
    · exact ratSp_ok rfl
    · exact loSp_ok) rfl Try.func41 rfl rfl rn_run0 (rf_init h hx0 hx1 hy0 hy1) ⟨?_, ?_, trivial⟩ rfl
  · intro hpc β a1 w1 M
    have q := hpc.1
    rw [t_lt, hix] at q
    change _ < (0 : Int) at q
    refine ret_post (B := ⟨rfE rows x y false, poS g a c, w, rfN g a c, 4⟩) M (retsB_ok rn_ret0 rfl) ⟨rfl, ?_⟩
    unfold notR
    rw [if_pos q]
    have hp := rn_hp0
    exact rf_leaf (hp := rfHp) ⟨fun b hb => M.hp b (by rw [hp]; exact hb), fun x hx y hy => M.ne x (by rw [hp]; exact hx) y (by rw [hp]; exact hy), fun b hb => M.may b (by rw [hp]; exact hb), M.only, M.old⟩ (List.mem_cons_self ..) (List.mem_cons_of_mem _ (List.mem_cons_self ..)) (by decide) rfl rfl l16
  · intro hpc β a1 w1 M
    have q := hpc.1
    rw [t_not, t_lt, hix] at q
    change ¬ _ < (0 : Int) at q
    obtain ⟨k, hk⟩ : ∃ k : Nat, ixOf (isFd x) rows = (k : Int) := ⟨(ixOf (isFd x) rows).toNat, by omega⟩
    have hkr : k < rows.length := by omega
    have hmem : rows.getD k [] ∈ rows := by rw [List.getD_eq_getElem?_getD, List.getElem?_eq_getElem hkr]; exact List.getElem_mem _
    have hr := hg _ hmem
    show (Sy.sub rnP (bodyOf Try.f41)).wp Try.prog (ctx Try.prog rnP (bodyOf Try.f41) _) a1 w1
    rw [rn_loop]
    have I1 : ∀ u, RnI rows k (y % 8) { (rfE rows x y false).sub β [.i 23 (.md (.iv 21) (.il 8)), .i 22 (.ap 7 (.cv 0) (.iv 20) (.il 0)), .i 0 (.il 1), .i 24 (tlen (.cv 0)), .c 1 (.cv 0)] with u := u } := fun u => by
      refine ⟨fun i => rfl, hk, rfl, rfl, .inl rfl, ?_⟩
      show rows = rows.set k (frR (rows.getD k []) (gB (rows.getD k []) 4 || parB (y % 8) (gI .i64 (rows.getD k []) 2) 1))
      rw [parB_1, Bool.or_false]
      unfold frR
      rw [← row_eq hr.ok, set_self _ _ _ hkr]
    obtain ⟨u, β2, M2⟩ := Sy.Md.enter M rn_match (fun u => (I1 u).cx hkr l16 hg (m8 y))
    refine loop_wp (r := rnR1 Try.prog Try.f41) rfl rn_run1 (RnI rows k (y % 8)) (fun ρ => (16 - ρ.i 0).toNat) (fun ρ I => I.good) (fun _ _ q hq => by cases hq) (fun ρ I => I.cx hkr l16 hg (m8 y)) (fun ρ I => ?_) (I1 u) M2
    have i0 := I.i0
    have hgi := I.gi hkr
    have hgb := I.gb hkr
    obtain ⟨f0, f1, f2⟩ := frR_g (rows.getD k []) (gB (rows.getD k []) 4 || parB (y % 8) (gI .i64 (rows.getD k []) 2) (ρ.i 0))
    have lt8 : ∀ {P : Prop}, (den ρ (.lt (.iv 0) (.il 8))).b = true → ρ.i 0 < 8 := fun q => by rw [t_lt] at q; exact q
    have dbl : (den ρ (.lt (.iv 0) (.il 8))).b = true → ρ.i 0 = 1 ∨ ρ.i 0 = 2 ∨ ρ.i 0 = 4 := fun q => by
      rw [t_lt] at q
      change ρ.i 0 < 8 at q
      omega
    have cr : (den ρ (.eq (.md (.dv (g1T 2) (.iv 0)) (.il 2)) (.il 0))).b = true ↔ gI .i64 (rows.getD k []) 2 / ρ.i 0 % 2 = 0 := by
      rw [t_eq]
      show (den ρ (g1T 2)).i / ρ.i 0 % 2 = 0 ↔ _
      rw [hgi, f2]
    have cm : (den ρ (.eq (.md (.dv (.iv 23) (.iv 0)) (.il 2)) (.il 1))).b = true ↔ (y % 8) / ρ.i 0 % 2 = 1 := by
      rw [t_eq]
      show ρ.i 23 / ρ.i 0 % 2 = 1 ↔ _
      rw [I.i23]
    have nxt : (ρ.i 0 = 1 ∨ ρ.i 0 = 2 ∨ ρ.i 0 = 4) → ((16 - ρ.i 0 * 2).toNat < (16 - ρ.i 0).toNat) ∧ (ρ.i 0 * 2 = 1 ∨ ρ.i 0 * 2 = 2 ∨ ρ.i 0 * 2 = 4 ∨ ρ.i 0 * 2 = 8) := fun q => by omega
    refine ⟨?_, ?_, ?_, ?_, trivial⟩
    · intro hpc β u
      obtain ⟨q1, q2, q3, _⟩ := hpc
      have hb := dbl q3
      refine ⟨⟨I.good, I.i22, I.i23, I.i24, (nxt hb).2, ?_⟩, (nxt hb).1⟩
      show (ρ.c 1).set (ρ.i 22).toNat [Value.int .i64 (den ρ (g1T 0)).i, .int .i64 (den ρ (g1T 1)).i, .int .i64 (den ρ (g1T 2)).i, .bool (den ρ (g1B 3)).b, .bool true] = rows.set k (frR (rows.getD k []) (gB (rows.getD k []) 4 || parB (y % 8) (gI .i64 (rows.getD k []) 2) (ρ.i 0 * 2)))
      rw [hgi, hgi, hgi, hgb, f0, f1, f2, parB_step hb, decide_eq_true ⟨cm.1 q2, cr.1 q1⟩, Bool.or_true, Bool.or_true, I.c1, I.i22, Int.toNat_natCast, List.set_set]
      rfl
    · intro hpc β u
      obtain ⟨q1, q2, q3, _⟩ := hpc
      have hb := dbl q3
      refine ⟨⟨I.good, I.i22, I.i23, I.i24, (nxt hb).2, ?_⟩, (nxt hb).1⟩
      show ρ.c 1 = rows.set k (frR (rows.getD k []) (gB (rows.getD k []) 4 || parB (y % 8) (gI .i64 (rows.getD k []) 2) (ρ.i 0 * 2)))
      rw [t_not] at q1
      rw [parB_step hb, decide_eq_false (fun q => q1 (cr.2 q.2)), Bool.or_false, I.c1]
    · intro hpc β u
      obtain ⟨q2, q3, _⟩ := hpc
      have hb := dbl q3
      refine ⟨⟨I.good, I.i22, I.i23, I.i24, (nxt hb).2, ?_⟩, (nxt hb).1⟩
      show ρ.c 1 = rows.set k (frR (rows.getD k []) (gB (rows.getD k []) 4 || parB (y % 8) (gI .i64 (rows.getD k []) 2) (ρ.i 0 * 2)))
      rw [t_not] at q2
      rw [parB_step hb, decide_eq_false (fun q => q2 (cm.2 q.1)), Bool.or_false, I.c1]
    · intro hpc β a2 w2 M3
      have q3 := hpc.1
      rw [t_not, t_lt] at q3
      change ¬ ρ.i 0 < 8 at q3
      have h8 : ρ.i 0 = 8 := by omega
      refine aft_fin (B := ⟨ρ, poS g a c, w, rfN g a c, 4⟩) (sp := []) (lim := 10) (fuel := 400) I.good (fun q hq => by cases hq) rfl (.exit 0) rn_run2 ⟨?_, trivial⟩ M3
      intro _ β4 w4 hH
      refine ⟨rfl, ?_⟩
      unfold notR
      rw [if_neg q, hk, Int.toNat_natCast]
      refine rf_leaf hH (l := 2) (n := .iv 24) (t := rnEn) (List.mem_cons_self ..) (List.mem_cons_of_mem _ (List.mem_cons_self ..)) (by decide) (by rw [List.length_set]; exact I.i24) ?_ (by rw [List.length_set]; exact l16)
      show (ρ.c 1).set (ρ.i 22).toNat [Value.int .i64 (den ρ (g1T 0)).i, .int .i64 (den ρ (g1T 1)).i, .int .i64 (ρ.i 23), .bool (den ρ (g1B 3)).b, .bool (den ρ (g1B 4)).b] = _
      rw [hgi, hgi, hgb, hgb, f0, f1, I.i23, I.c1, I.i22, Int.toNat_natCast, List.set_set]
      show rows.set k [_, _, _, _, .bool (gB (rows.getD k []) 4 || parB (y % 8) (gI .i64 (rows.getD k []) 2) (ρ.i 0))] = _
      rw [h8, parB_8]
      rfl
end
end Go.Proofs.Ytnjpoidpfcfbeaa
