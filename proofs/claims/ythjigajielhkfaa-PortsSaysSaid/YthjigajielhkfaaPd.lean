/- Bounds: contracts in letters; the program's clashes. -/
import Derived.Test.YthjigajielhkfaaPc
namespace Go.Proofs.Ythjigajielhkfaa
open Go.RowKit Sy
set_option linter.unusedVariables false
set_option linter.unusedSimpArgs false

/-- What the function letters stand for. -/
def plF : Nat → Dn → Dn → Dn → Dn := fun n x y z =>
  if n = 40 then dB (x.c.any fun a => clF a (y.c.headD []))
  else if n = 41 then dC (x.c.filter fun a => !owF (gI .i64 (y.c.headD []) 0) a)
  else if n = 45 then dI (ixOf (fun a => clF a (y.c.headD [])) x.c)
  else if n = 46 then dI (ixOf (fun a => owF (gI .i64 (y.c.headD []) 0) a) x.c)
  else dI 0
theorem row1_ok {ρ : Env} {β : Bn} {c : Cx} (hc : c.ok ρ) {lv : List Kd} {cs : List C} {m : List Tm} {t : Tm} (h : rowsTm c lv 1 cs = some (m, t)) (hl : Nat.beq cs.length lv.length = true) (hm : Sy.Met ρ m) : (den ρ t).c = [denL ρ β cs] ∧ kAll lv (denL ρ β cs) := by
  obtain ⟨h1, h2, h3⟩ := rowsTm_ok (β := β) hc h hm
  rw [Nat.one_mul, List.take_of_length_le (by rw [denL_len]; exact Nat.le_of_eq (Nat.eq_of_beq_eq_true hl))] at h3
  match hq : (den ρ t).c with
  | [r] =>
    rw [hq] at h2 h3
    rw [List.flatten_cons, List.flatten_nil, List.append_nil] at h3
    exact ⟨by rw [h3], by rw [← h3]; exact h2 r (List.mem_cons_self ..)⟩
  | [] => rw [hq] at h1; cases h1
  | _ :: _ :: _ => rw [hq] at h1; simp at h1
section
variable {P : Program} {ρ : Env}
def ixSp (f cl : FuncId) (tyB : TypeId) (lvB : List Kd) (n : Nat) : Sy.Spec where
  f := f
  pre := fun s xs => match xs with
    | [x, .one (.c (.fn g [lb]))] => match tabArg s.cx s.hp 50 bdLv x, Sy.find lb s.hp with
      | some (m1, ol, t), some b => match b.str, b.x with
        | none, .no => match rowsTm s.cx lvB 1 b.cs with
          | some (m2, r) => if Nat.beq g cl && (Nat.beq b.ty tyB && (Nat.beq b.cs.length lvB.length && apartL ol (some lb))) then some (m1 ++ (m2 ++ need s.cx (.le (mkTL s.cx t) (.il 4000)))) else none
          | none => none
        | _, _ => none
      | _, _ => none
    | _ => none
  go := fun _ s xs => match xs with
    | [x, .one (.c (.fn g [lb]))] => match tabArg s.cx s.hp 50 bdLv x, Sy.find lb s.hp with
      | some (_, _, t), some b => match rowsTm s.cx lvB 1 b.cs with
        | some (_, r) => some (s, .one (.c (.int .i64 (.ap n t r (.il 0)))))
        | none => none
      | _, _ => none
    | _ => none
theorem ixSp_ok {f cl : FuncId} {tyB : TypeId} {lvB : List Kd} {n : Nat} {test : List Value → List Value → Bool} (E : IxRuns P f cl tyB lvB test) (hF : ∀ x y z, ρ.f n x y z = dI (ixOf (test (y.c.headD [])) x.c)) : (ixSp f cl tyB lvB n).Ok P ρ := by
  intro B s xs m s' v hB hpre hgo hm β a w hM
  subst hB
  simp only [ixSp] at hpre hgo
  split at hgo
  · rename_i x g lb
    simp only [] at hpre
    split at hgo
    · rename_i m1 ol t b h1 h2
      rw [h1, h2] at hpre
      simp only [] at hpre
      split at hgo
      · rename_i m2 r h3
        split at hpre
        · rename_i hs hx
          rw [h3] at hpre
          simp only [] at hpre
          split at hpre
          · rename_i q
            simp only [Bool.and_eq_true] at q
            injection hpre with hpre
            injection hgo with hgo
            injection hgo with e1 e2
            subst hpre e1 e2
            obtain ⟨g1, c1, a1, a2, a3, a4⟩ := tabArg_ok hM hM.cx h1 hm.l
            obtain ⟨b1, b2⟩ := row1_ok (β := β) hM.cx h3 q.2.2.1 hm.r.l
            have hlen := le_of (need_ok hM.cx hm.r.r)
            rw [mkTL_ok hM.cx] at hlen
            change _ ≤ (4000 : Int) at hlen
            have hmem := find_mem h2
            have hB := hM.hp b hmem.1
            unfold BkOk at hB
            rw [hs, hx] at hB
            have hB : Blk w (β b.l) b.ty (denL B.ρ β b.cs) := hB
            rw [hmem.2, Nat.eq_of_beq_eq_true q.2.1] at hB
            have hne : c1 ≠ 0 → β lb ≠ g1 := fun hc => by
              obtain ⟨p, hp, rfl, pr, rfl⟩ := a4 hc
              rw [← hmem.2]
              refine hM.ne b hmem.1 p hp (fun e => ?_) (.inl (by unfold Bk.nilable; rw [hs, hx]; rfl)) pr
              have := q.2.2.2
              rw [← hmem.2, e] at this
              change (!(Nat.beq p.l p.l)) = true at this
              rw [Nat.beq_refl] at this
              cases this
            have hcall := E a2 hB b2 (by omega) hne
            show Calls P f (#[x.den B.ρ β, .func (.func g) #[] #[.pointer (some ⟨β lb, 0, none⟩)]]) w _
            rw [a1, Nat.eq_of_beq_eq_true q.1]
            refine hcall.mono ?_
            rintro e w' ⟨v, rfl, rfl, hb⟩
            refine ⟨β, a, ?_, ⟨hM.act, fun b hb' => (hM.hp b hb').below hb, hM.ne, hM.may, hM.cx, hM.only.then_below hb, hM.old⟩⟩
            show _ = Ending.returned (.int .i64 (B.ρ.f n _ _ _).i)
            rw [hF, b1]
            rfl
          · cases hpre
        · cases hpre
      · cases hgo
    · cases hgo
  · cases hgo
/-- The table that a block's one cell leads to. -/
def ownArg (s : Sy.St) (T : TypeId) (l : Nat) : Option (List Tm × Option Nat × Tm) :=
  match Sy.find l s.hp with
  | some b => match b.str, b.x, b.cs with
    | none, .no, [x] => if Nat.beq b.ty T then match tabArg s.cx s.hp 50 bdLv (.one (.c x)) with
      | some (m, ol, t) => if apartL ol (some l) then some (m ++ need s.cx (.le (mkTL s.cx t) (.il 4000)), ol, t) else none
      | none => none
      else none
    | _, _, _ => none
  | none => none
theorem ownArg_ok {S : Nat → Prop} {w0 : World} {β0 : Bn} {n0 : Nat} {s : Sy.St} {β : Bn} {a : Act} {w : World} (hM : Md ρ S w0 β0 n0 s β a w) {T : TypeId} {l : Nat} {m : List Tm} {ol : Option Nat} {t : Tm} (h : ownArg s T l = some (m, ol, t)) (hm : Sy.Met ρ m) :
    ∃ g c b x, Sy.find l s.hp = some b ∧ b.str = none ∧ b.x = .no ∧ b.cs = [x] ∧ b.ty = T ∧ C.den ρ β x = sltV g c (den ρ t).c.length ∧ Blk w (β l) T [sltV g c (den ρ t).c.length] ∧ RowT w g c 50 bdLv (den ρ t).c ∧ (den ρ t).c.length ≤ 4000 ∧ (c ≠ 0 → β l ≠ g) ∧ (c ≠ 0 → ∃ b ∈ s.hp, ol = some b.l ∧ b.real β ∧ g = β b.l) := by
  unfold ownArg at h
  split at h
  · rename_i b hf
    split at h
    · rename_i x hs hx hcs
      split at h
      · rename_i qT
        have qT := Nat.eq_of_beq_eq_true qT
        split at h
        · rename_i m1 ol1 t1 h1
          split at h
          · rename_i q
            injection h with h
            injection h with e1 e2
            injection e2 with e2 e3
            subst e1 e2 e3
            obtain ⟨g1, c1, a1, a2, a3, a4⟩ := tabArg_ok hM hM.cx h1 hm.l
            have hlen := le_of (need_ok hM.cx hm.r)
            rw [mkTL_ok hM.cx] at hlen
            change _ ≤ (4000 : Int) at hlen
            have hmem := find_mem hf
            have hB := hM.hp b hmem.1
            unfold BkOk at hB
            rw [hs, hx] at hB
            have hB : Blk w (β b.l) b.ty (denL ρ β b.cs) := hB
            rw [hmem.2, qT, hcs] at hB
            change C.den ρ β x = _ at a1
            have hB : Blk w (β l) T [C.den ρ β x] := hB
            rw [a1] at hB
            refine ⟨g1, c1, b, x, hf, hs, hx, hcs, qT, a1, hB, a2, by omega, fun hc => ?_, a4⟩
            obtain ⟨p, hp, rfl, pr, rfl⟩ := a4 hc
            rw [← hmem.2]
            refine hM.ne b hmem.1 p hp (fun e => ?_) (.inl (by unfold Bk.nilable; rw [hs, hx]; rfl)) pr
            rw [← hmem.2, e] at q
            change (!(Nat.beq p.l p.l)) = true at q
            rw [Nat.beq_refl] at q
            cases q
          · cases h
        · cases h
      · cases h
    · cases h
  · cases h
def clSp (f : FuncId) (T : TypeId) : Sy.Spec where
  f := f
  pre := fun s xs => match xs with
    | [.one (.c (.ptr l o)), .one (.agg cs)] => match ownArg s T l, rowsTm s.cx bdLv 1 cs with
      | some (m1, _, _), some (m2, _) => if Nat.beq o 0 && Nat.beq cs.length 7 then some (m1 ++ m2) else none
      | _, _ => none
    | _ => none
  go := fun _ s xs => match xs with
    | [.one (.c (.ptr l o)), .one (.agg cs)] => match ownArg s T l, rowsTm s.cx bdLv 1 cs with
      | some (_, _, t), some (_, r) => some (s, .one (.c (.bool (.ap 40 t r (.il 0)))))
      | _, _ => none
    | _ => none
theorem clSp_ok {f : FuncId} {T : TypeId} (E : ClRuns P f T) (hF : ρ.f 40 = plF 40) : (clSp f T).Ok P ρ := by
  intro B s xs m s' v hB hpre hgo hm β a w hM
  subst hB
  simp only [clSp] at hpre hgo
  split at hgo
  · rename_i l o cs
    simp only [] at hpre
    split at hgo
    · rename_i m1 ol t m2 r h1 h2
      rw [h1, h2] at hpre
      simp only [] at hpre
      split at hpre
      · rename_i q
        simp only [Bool.and_eq_true] at q
        injection hpre with hpre
        injection hgo with hgo
        injection hgo with e1 e2
        subst hpre e1 e2
        obtain ⟨g, c, b, x, hf, hs, hx, hcs, hT, hv, hB, hR, hl, hne, _⟩ := ownArg_ok hM h1 hm.l
        obtain ⟨b1, b2⟩ := row1_ok (β := β) hM.cx h2 q.2 hm.r
        have hcall := E hB hR b2 hl hne
        show Calls P f (#[.pointer (some ⟨β l, o, none⟩), .agg (denL B.ρ β cs).toArray]) w _
        rw [Nat.eq_of_beq_eq_true q.1]
        refine hcall.mono ?_
        rintro e w' ⟨v, rfl, rfl, hb⟩
        refine ⟨β, a, ?_, ⟨hM.act, fun b hb' => (hM.hp b hb').below hb, hM.ne, hM.may, hM.cx, hM.only.then_below hb, hM.old⟩⟩
        show _ = Ending.returned (.bool (B.ρ.f 40 _ _ _).b)
        rw [hF]
        show _ = Ending.returned (.bool ((den B.ρ t).c.any fun a => clF a ((den B.ρ r).c.headD [])))
        rw [b1]
        rfl
      · cases hpre
    · cases hgo
  · cases hgo
end
/-! The program's clashes. -/
def bdRow : Tm := .tb (.cons (.int .i64)) (.iv 20) (.tb (.cons (.int .u32)) (.iv 21) (.tb (.cons (.int .i64)) (.iv 22) (.tb (.cons (.int .u32)) (.iv 23) (.tb (.cons (.int .i64)) (.iv 24) (.tb (.cons .bool) (.bv 25) (.tb (.cons (.int .i64)) (.iv 26) trow (.il 0)) (.il 0)) (.il 0)) (.il 0)) (.il 0)) (.il 0)) (.il 0)
def ixcS : Sy.Spec := ixSp 190 192 50 bdLv 45
def ixdS : Sy.Spec := ixSp 190 176 3 [.int .i64] 46
set_option maxRecDepth 100000 in
theorem pcl_run : finB Try.prog Try.f178 0 (.one (.c (.bool (.le (.il 0) (.ap 45 (.cv 0) bdRow (.il 0)))))) (run Try.prog [ixcS] 10 400 0 (.code (bodyOf Try.f178)) (enterS Try.f178 clA (clSt 252))) = true := by kernel_rfl
theorem bdRow_c {F : Nat → Dn → Dn → Dn → Dn} {rows : List (List Value)} {b : List Value} (hk : kAll bdLv b) : (den (bdEnv F rows b) bdRow).c = [b] := by
  show [[Value.int .i64 (gI .i64 b 0), .int .u32 (gI .u32 b 1), .int .i64 (gI .i64 b 2), .int .u32 (gI .u32 b 3), .int .i64 (gI .i64 b 4), .bool (gB b 5), .int .i64 (gI .i64 b 6)]] = _
  rw [← bd_cells hk]
theorem pcl_runs : ClRuns Try.prog 178 252 := by
  intro w g0 g c rows b hB hT hk hn hne
  have hcs : denL (bdEnv plF rows b) (ixB g c g0) bdC = b := (bd_cells hk).symm
  obtain ⟨hpf, pcf, hrun⟩ := finB_ok pcl_run
  have hself : But0 (bdEnv plF rows b) (bdEnv plF rows b) := ⟨fun _ _ => rfl, rfl, rfl, rfl, rfl, rfl⟩
  have hM0 : Md (bdEnv plF rows b) (fun _ => False) w (ixB g c g0) 0 (clSt 252) (ixB g c g0) ⟨#[], []⟩ w := by
    refine md_two ?_ hT (fun h => hne h) rfl ⟨bd_bs hn hself, fun t ht => by cases ht⟩
    show Blk w g0 _ [sltZ g c 7 0 rows.length 0]
    rw [sltZ_zero]
    exact hB
  refine calls_sm (B := ⟨bdEnv plF rows b, fun _ => False, w, ixB g c g0, 0⟩) (sp := [ixcS]) (fun i => rfl) (fun q hq => ?_) 10 400 Try.func178 rfl clA (clSt 252) _ 0 rfl hrun hM0 ?_ ?_
  · rw [List.mem_singleton.1 hq]
    exact ixSp_ok ixc_runs fun x y z => rfl
  · refine ⟨?_, trivial⟩
    intro _ β w' hH
    refine ⟨?_, Sy.Only.below_all hH.only⟩
    show Value.bool (decide ((0 : Int) ≤ ixOf (fun a => clF a ((den (bdEnv plF rows b) bdRow).c.headD [])) rows)) = _
    rw [bdRow_c hk, ixOf_any]
    rfl
  · show _ = (#[_, .agg (denL (bdEnv plF rows b) (ixB g c g0) bdC).toArray] : Array Value)
    rw [hcs]
    rfl
end Go.Proofs.Ythjigajielhkfaa
