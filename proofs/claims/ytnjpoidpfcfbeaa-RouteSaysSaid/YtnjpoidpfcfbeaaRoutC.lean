/- Routes: Table.Add's code run in parts. -/
import Derived.Test.YtnjpoidpfcfbeaaRoutB
namespace Go.Proofs.Ytnjpoidpfcfbeaa
open Go.RowKit Sy
set_option linter.unusedVariables false
set_option linter.unusedSimpArgs false

namespace Sy
theorem Md.enterLL {ρ : Env} {S : Nat → Prop} {w0 : World} {β0 : Bn} {n0 : Nat} {s T : St} {β : Bn} {a : Act} {w : World} (hM : Md ρ S w0 β0 n0 s β a w) {n k n' k' : Nat} {l : List As} (h : (matchS n0 T s).map (fun l => (noU l, rnL l n, rnL l n')) = some (l, k, k')) (hc : ∀ u, T.cx.ok { ρ.sub β l with u := u }) : ∃ u β', Md { ρ.sub β l with u := u } S w0 β0 n0 T β' a w ∧ β' n = β k ∧ β' n' = β k' := by
  obtain ⟨m, hm, h⟩ := Option.map_eq_some_iff.1 h
  simp only [Prod.mk.injEq] at h
  obtain ⟨h1, h2, h3⟩ := h
  subst h1 h2 h3
  refine ⟨(ρ.sub β m).u, bnL m β, ?_, rfl, rfl⟩
  have := Sy.Md.matched hM hm (by rw [sub_noU]; exact hc _)
  rwa [sub_noU] at this
end Sy
/-- Blocks that are as they were in that world. -/
def fixT (w0 : World) (g : Nat) (F : List Nat) : Thing where
  P := fun w g' Fp _ => g' = g ∧ (∀ i, Fp i ↔ i ∈ F) ∧ g ∈ F ∧ ∀ i ∈ F, i < w.heap.size ∧ w.heap[i]? = w0.heap[i]?
  keep := fun {w w' g' Fp c} ⟨h1, h2, h3, h4⟩ hk => ⟨h1, h2, h3, fun i hi => by
    have e := hk i ((h2 i).2 hi)
    have l := (h4 i hi).1
    refine ⟨?_, e.trans (h4 i hi).2⟩
    rcases Nat.lt_or_ge i w'.heap.size with q | q
    · exact q
    · rw [Array.getElem?_eq_none q, Array.getElem?_eq_getElem l] at e
      cases e⟩
  lt := fun ⟨_, h2, _, h4⟩ i hi => (h4 i ((h2 i).1 hi)).1
  root := fun ⟨h1, h2, h3, _⟩ => by rw [h1]; exact (h2 _).2 h3
theorem dst_keep {w w' : World} {a : Int} : ∀ (j k : Nat) {o : Option Int} {ak : Int} {b : Nat} {F : List Nat} {c : Rws}, Sub w o k ak (ptv b) F c → (∀ i ∈ F, w'.heap[i]? = w.heap[i]?) → k + j ≤ 32 → wid k ∣ ak → 0 ≤ ak → ak ≤ a → a < ak + wid k → dst w' a j k (ptv b) = dst w a j k (ptv b)
  | 0, _, _, _, _, _, _, _, _, _, _, _, _, _ => rfl
  | j + 1, k, o, ak, b, F, c, h, hk, hj, al, a0, x0, x1 => by
    obtain ⟨p1, p2, F1, F2, c1, c2, s, v, N⟩ := h.opn rfl
    have hlt : k < 32 := by omega
    have hh := wid_half hlt
    have hw := wid_pos (k + 1)
    obtain ⟨l1, l2⟩ := al_kid hlt al
    have hF := N.hF
    rw [dst_step N hlt al x0 x1 a0, dst_step (N.keep hk) hlt al x0 x1 a0]
    by_cases hd : ak + wid (k + 1) ≤ a
    · rw [decide_eq_true hd]
      show dst w' a j (k + 1) p2 = dst w a j (k + 1) p2
      have K := N.k2
      rcases K.shape with ⟨e, _⟩ | ⟨g1, e⟩
      · rw [e, dst_nil, dst_nil]
      · rw [e] at K ⊢
        exact dst_keep j (k + 1) K (fun i hi => hk i (by rw [hF]; exact List.mem_cons_of_mem _ (List.mem_append_right _ hi))) (by omega) l2 (by omega) hd (by omega)
    · rw [decide_eq_false hd]
      show dst w' a j (k + 1) p1 = dst w a j (k + 1) p1
      have K := N.k1
      rcases K.shape with ⟨e, _⟩ | ⟨g1, e⟩
      · rw [e, dst_nil, dst_nil]
      · rw [e] at K ⊢
        exact dst_keep j (k + 1) K (fun i hi => hk i (by rw [hF]; exact List.mem_cons_of_mem _ (List.mem_append_left _ hi))) (by omega) l1 a0 x0 (by omega)
theorem Sub.root_in {w : World} {o : Option Int} {k : Nat} {a : Int} {g : Nat} {F : List Nat} {c : Rws} (h : Sub w o k a (ptv g) F c) : g ∈ F := by
  obtain ⟨_, _, _, _, _, _, _, _, N⟩ := h.opn rfl
  rw [N.hF]
  exact List.mem_cons_self ..
/-- What find answers: nil, or the address that letter 50 tells. -/
def fiV' (z : Bool) : C := bif z then .nptr else .ptv (.iv 50)
def fiSel (z : Bool) (s : Sy.St) : List SV → Option Did
  | [.one (.c (.ptr 0 0)), .one (.agg [.int .u32 (.iv 20), .int .i64 (.iv 21)])] => match find 0 s.hp with
    | some ⟨_, _, _, _, none, .own 0 t⟩ => some ⟨need s.cx (.eq (.ap 20 (.iv 20) (.iv 21) (.il 0)) (.il 0)), [], [], [], .one (.c (fiV' z)), [], none⟩
    | _ => none
  | _ => none
def fiSp (z : Bool) : Sy.Spec := chgSp 87 (fiSel z)
theorem fiSp_ok {ρ : Env} {z : Bool} {w0 : World} {g : Nat} {F : List Nat} {m : Int} {C : Rws} (hf : ρ.f = rtF) (ho : ρ.o 0 = fixT w0 g F) (h : Sub w0 (some m) 0 0 (ptv g) F C) (m0 : 0 ≤ m) (m1 : m ≤ 64) (a0 : 0 ≤ ρ.i 20) (a1 : ρ.i 20 ≤ 4294967295) (hv : chkN (ρ.i 20) (ρ.i 21) = 0 → (bif z then nilp else ptv (ρ.i 50).toNat) = fnV w0 g (ρ.i 20) (ρ.i 21)) : (fiSp z).Ok Try.prog ρ := by
  refine chgSp_ok fun {s xs d} hs hc hm {β w} hb hne => ?_
  unfold fiSel at hs
  split at hs
  · split at hs
    · rename_i l' ty cs rw t hfind
      injection hs with hs
      subst hs
      have hme := find_mem hfind
      have hB : (ρ.o 0).P w (β l') (bitF β cs) (den ρ t).c := hb _ hme.1
      rw [ho] at hB
      obtain ⟨e1, _, _, e4⟩ := hB
      have hl : l' = 0 := hme.2
      subst hl
      have q := need_ok hc hm
      rw [t_eq] at q
      change (ρ.f 20 (dI (ρ.i 20)) (dI (ρ.i 21)) _).i = 0 at q
      rw [hf] at q
      change chkN (ρ.i 20) (ρ.i 21) = 0 at q
      have hk : ∀ i ∈ F, w.heap[i]? = w0.heap[i]? := fun i hi => (e4 i hi).2
      obtain ⟨n0, n1, _⟩ := chk_0 q
      refine ⟨fun y hy => (by cases hy), ?_⟩
      have hcall := fnd_calls (h.keep hk) m0 m1 a0 a1 q
      show Calls Try.prog 87 #[ptv (β 0), pfV (ρ.i 20) (ρ.i 21)] w _
      rw [e1]
      refine hcall.mono ?_
      rintro e w' ⟨v, rfl, rfl, hb'⟩
      refine ⟨β, ?_, Only.of_below hb' _, fun _ _ => rfl, fun _ h => (by cases h), fun _ h => (by cases h), fun _ h => (by cases h), fun _ h => (by cases h), fun _ h => (by cases h), fun _ h => (by cases h)⟩
      have e5 : fnV w g (ρ.i 20) (ρ.i 21) = fnV w0 g (ρ.i 20) (ρ.i 21) := dst_keep _ 0 h hk (by omega) ⟨0, by simp⟩ (Int.le_refl _) a0 (by rw [wid_0]; omega)
      show Ending.returned _ = Ending.returned ((fiV' z).den ρ β)
      rw [e5, ← hv q]
      cases z <;> rfl
    · cases hs
  · cases hs
/-! The first part: the check, and the place. -/
def fxB : Bk := ⟨0, 165, [.ptr 1 0], false, none, .own 0 (.cv 0)⟩
def opBs : List Bd := [u32B 20, i64B 21, i64B 24]
def opS : Sy.St := ⟨[], [fxB], ⟨opBs, []⟩, 60⟩
def adA : List SV := pA ++ [.one (.c (.int .i64 (.iv 24)))]
def opP : List Nat := [1, 1, 1]
def adR0 (P : Program) (fn : Func) (z : Bool) : Rs := run P [ckSp, fiSp z] 10 400 4 (.code (pre opP (bodyOf fn))) (enterS fn adA opS)
def adN0 : Tm := .not (.eq (.ap 20 (.iv 20) (.iv 21) (.il 0)) (.il 0))
def adE0 : Tm := .eq (.ap 20 (.iv 20) (.iv 21) (.il 0)) (.il 0)
set_option maxRecDepth 100000 in
theorem ad_run0 : ∀ z : Bool, shR 4 none (adR0 Try.prog Try.f52 z) = some [.out 0 .ret [adN0], .out 1 .normal [adE0]]
  | true => by kernel_rfl
  | false => by kernel_rfl
set_option maxRecDepth 100000 in
theorem ad_ret0 : ∀ z : Bool, retsB Try.prog Try.f52 (adR0 Try.prog Try.f52 z) (.one (.c (.int .i64 (.ap 20 (.iv 20) (.iv 21) (.il 0))))) [0] = true
  | true => by kernel_rfl
  | false => by kernel_rfl
def boxK (rw : Bool) : Bk := ⟨60, 29, [.int .u32 (.iv 20), .int .i64 (.iv 21)], rw, none, .no⟩
set_option maxRecDepth 100000 in
theorem ad_box : ∀ z : Bool, find 60 (lfAt (adR0 Try.prog Try.f52 z) 1).hp = some (boxK true)
  | true => by kernel_rfl
  | false => by kernel_rfl
/-! The second: is it there, are there too many. -/
def adCx0 : Cx := ⟨[u32B 20, ⟨.iv 21, 0, 32⟩, i64B 24], []⟩
def adSt0 (P : Program) (fn : Func) (z : Bool) : Sy.St := { lfAt (adR0 P fn z) 1 with hp := [boxK false], cx := adCx0 }
def adM (P : Program) (fn : Func) (z : Bool) : Sy.St := tplK (adSt0 P fn z) [0, 2, 4] [(8, .one (.c (fiV' z)))] [] adCx0 100
set_option maxRecDepth 100000 in
theorem ad_m0 : ∀ z : Bool, (matchS 4 (adM Try.prog Try.f52 z) (adSt0 Try.prog Try.f52 z)).map (fun l => (noU l, rnL l 0, rnL l 60)) = some ([], 0, 60)
  | true => by kernel_rfl
  | false => by kernel_rfl
/-- The place's slot told by a letter: 0 the table's, 4 a node's. -/
def adM1 (P : Program) (fn : Func) (l : Nat) : Sy.St := { adM P fn false with tm := (adM P fn false).tm.set 8 (.one (.c (.ptr l 0))) }
def adB0 (P : Program) (fn : Func) (y1 y2 : Bool) : Sy.St := ndSG (adM P fn true) 0 12 36 true y1 y2 false
def adB2 (P : Program) (fn : Func) (y1 y2 : Bool) : Sy.St := ndSG (adM1 P fn 0) 0 12 36 true y1 y2 false
def adB1 (P : Program) (fn : Func) (z1 z2 y1 y2 : Bool) : Sy.St := ndSG (ndSG (adM1 P fn 4) 4 6 32 false z1 z2 false) 0 12 36 true y1 y2 false
def adQ : List Nat := [1, 1, 0, 1, 2]
def adRe (fn : Func) : Code := Sy.sub opP (bodyOf fn)
def adRB (P : Program) (fn : Func) (s : Sy.St) : Rs := run P [] 10 400 62 (.code (pre adQ (adRe fn))) s
def adFu : Tm := .eq (.iv 38) (.il 64)
set_option maxRecDepth 100000 in
theorem ad_runB0 : ∀ y1 y2 : Bool, shR 62 none (adRB Try.prog Try.f52 (adB0 Try.prog Try.f52 y1 y2)) = some [.out 0 .ret [adFu], .out 1 .normal [.not adFu]] := by
  intro y1 y2
  cases y1 <;> cases y2 <;> kernel_rfl
set_option maxRecDepth 100000 in
theorem ad_runB2 : ∀ y1 y2 : Bool, shR 62 none (adRB Try.prog Try.f52 (adB2 Try.prog Try.f52 y1 y2)) = some [.out 0 .ret [.bv 36], .out 1 .ret [adFu, .not (.bv 36)], .out 2 .normal [.not adFu, .not (.bv 36)]] := by
  intro y1 y2
  cases y1 <;> cases y2 <;> kernel_rfl
set_option maxRecDepth 100000 in
theorem ad_runB1 : ∀ z1 z2 y1 y2 : Bool, shR 62 none (adRB Try.prog Try.f52 (adB1 Try.prog Try.f52 z1 z2 y1 y2)) = some [.out 0 .ret [.bv 32], .out 1 .ret [adFu, .not (.bv 32)], .out 2 .normal [.not adFu, .not (.bv 32)]] := by
  intro z1 z2 y1 y2
  cases z1 <;> cases z2 <;> cases y1 <;> cases y2 <;> kernel_rfl
set_option maxRecDepth 100000 in
theorem ad_retB0 : ∀ y1 y2 : Bool, retsB Try.prog Try.f52 (adRB Try.prog Try.f52 (adB0 Try.prog Try.f52 y1 y2)) (.one (.c (.int .i64 (.il 9)))) [0] = true := by
  intro y1 y2
  cases y1 <;> cases y2 <;> kernel_rfl
set_option maxRecDepth 100000 in
theorem ad_retB2 : ∀ y1 y2 : Bool, (retsB Try.prog Try.f52 (adRB Try.prog Try.f52 (adB2 Try.prog Try.f52 y1 y2)) (.one (.c (.int .i64 (.il 8)))) [0] && retsB Try.prog Try.f52 (adRB Try.prog Try.f52 (adB2 Try.prog Try.f52 y1 y2)) (.one (.c (.int .i64 (.il 9)))) [1]) = true := by
  intro y1 y2
  cases y1 <;> cases y2 <;> kernel_rfl
set_option maxRecDepth 100000 in
theorem ad_retB1 : ∀ z1 z2 y1 y2 : Bool, (retsB Try.prog Try.f52 (adRB Try.prog Try.f52 (adB1 Try.prog Try.f52 z1 z2 y1 y2)) (.one (.c (.int .i64 (.il 8)))) [0] && retsB Try.prog Try.f52 (adRB Try.prog Try.f52 (adB1 Try.prog Try.f52 z1 z2 y1 y2)) (.one (.c (.int .i64 (.il 9)))) [1]) = true := by
  intro z1 z2 y1 y2
  cases z1 <;> cases z2 <;> cases y1 <;> cases y2 <;> kernel_rfl
set_option maxRecDepth 100000 in
theorem ad_bx0 : ∀ y1 y2 : Bool, find 60 (lfAt (adRB Try.prog Try.f52 (adB0 Try.prog Try.f52 y1 y2)) 1).hp = some (boxK false) := by
  intro y1 y2
  cases y1 <;> cases y2 <;> kernel_rfl
set_option maxRecDepth 100000 in
theorem ad_bx2 : ∀ y1 y2 : Bool, find 60 (lfAt (adRB Try.prog Try.f52 (adB2 Try.prog Try.f52 y1 y2)) 2).hp = some (boxK false) := by
  intro y1 y2
  cases y1 <;> cases y2 <;> kernel_rfl
set_option maxRecDepth 100000 in
theorem ad_bx1 : ∀ z1 z2 y1 y2 : Bool, find 60 (lfAt (adRB Try.prog Try.f52 (adB1 Try.prog Try.f52 z1 z2 y1 y2)) 2).hp = some (boxK false) := by
  intro z1 z2 y1 y2
  cases z1 <;> cases z2 <;> cases y1 <;> cases y2 <;> kernel_rfl
set_option maxRecDepth 100000 in
theorem ad_mT : (lowSt 36 (adM Try.prog Try.f52 true) && (((adM Try.prog Try.f52 true).free 12 && (adM Try.prog Try.f52 true).free 13) && ((adM Try.prog Try.f52 true).free 14 && (adM Try.prog Try.f52 true).free 15))) = true := by kernel_rfl
set_option maxRecDepth 100000 in
theorem ad_m10 : (lowSt 36 (adM1 Try.prog Try.f52 0) && (((adM1 Try.prog Try.f52 0).free 12 && (adM1 Try.prog Try.f52 0).free 13) && ((adM1 Try.prog Try.f52 0).free 14 && (adM1 Try.prog Try.f52 0).free 15))) = true := by kernel_rfl
set_option maxRecDepth 100000 in
theorem ad_m14 : (lowSt 32 (adM1 Try.prog Try.f52 4) && (((adM1 Try.prog Try.f52 4).free 6 && (adM1 Try.prog Try.f52 4).free 7) && ((adM1 Try.prog Try.f52 4).free 8 && (adM1 Try.prog Try.f52 4).free 9))) = true := by kernel_rfl
set_option maxRecDepth 100000 in
theorem ad_m14' : ∀ z1 z2 : Bool, (lowSt 36 (ndSG (adM1 Try.prog Try.f52 4) 4 6 32 false z1 z2 false) && (((ndSG (adM1 Try.prog Try.f52 4) 4 6 32 false z1 z2 false).free 12 && (ndSG (adM1 Try.prog Try.f52 4) 4 6 32 false z1 z2 false).free 13) && ((ndSG (adM1 Try.prog Try.f52 4) 4 6 32 false z1 z2 false).free 14 && (ndSG (adM1 Try.prog Try.f52 4) 4 6 32 false z1 z2 false).free 15))) = true := by
  intro z1 z2
  cases z1 <;> cases z2 <;> kernel_rfl
set_option maxRecDepth 100000 in
theorem ad_m4 : ((adM Try.prog Try.f52 false).free 4 && (adM Try.prog Try.f52 false).free 5) = true := by kernel_rfl
set_option maxRecDepth 100000 in
theorem ad_m8 : (adM Try.prog Try.f52 false).tm.getD 8 undS = .one (.c (.ptv (.iv 50))) := by kernel_rfl
set_option maxRecDepth 100000 in
theorem ad_mhp : ∀ z : Bool, (adM Try.prog Try.f52 z).hp = [boxK false] ∧ (adM Try.prog Try.f52 z).cx = adCx0
  | true => ⟨by kernel_rfl, by kernel_rfl⟩
  | false => ⟨by kernel_rfl, by kernel_rfl⟩
/-! The loop. -/
def adCx : Cx := ⟨⟨.iv 22, 0, 32⟩ :: adCx0.bs, []⟩
def adSB (s : Sy.St) : Sy.St := { s with hp := [boxK false], cx := adCx0 }
def adT (P : Program) (fn : Func) : Sy.St := tplK (adSB (lfAt (adRB P fn (adB0 P fn true true)) 1)) [0, 2, 4, 38] [(8, .one (.c (.ptr 4 0))), (39, .one (.c (.int .i64 (.iv 22))))] [] adCx 100
def adLo (fn : Func) : Code := lpBody (Sy.sub adQ (adRe fn))
def adR1 (P : Program) (fn : Func) (rt d z1 z2 : Bool) : Rs := run P [btSp d 22] 10 400 62 (.code (adLo fn)) (ndS (adT P fn) rt z1 z2 true)
set_option maxRecDepth 100000 in
theorem ad_loop : Sy.sub adQ (adRe Try.f52) = .loop (adLo Try.f52) := by kernel_rfl
set_option maxRecDepth 100000 in
theorem ad_cx : (adT Try.prog Try.f52).cx = adCx := by kernel_rfl
set_option maxRecDepth 100000 in
theorem ad_hp : (adT Try.prog Try.f52).hp = [boxK false] := by kernel_rfl
set_option maxRecDepth 100000 in
theorem ad_low : (lowSt 32 (adT Try.prog Try.f52) && (((adT Try.prog Try.f52).free 6 && (adT Try.prog Try.f52).free 7) && ((adT Try.prog Try.f52).free 8 && (adT Try.prog Try.f52).free 9))) = true := by kernel_rfl
set_option maxRecDepth 100000 in
theorem ad_in0 : ∀ y1 y2 : Bool, (matchS 4 (adT Try.prog Try.f52) (adSB (lfAt (adRB Try.prog Try.f52 (adB0 Try.prog Try.f52 y1 y2)) 1))).map (fun l => (noU l, rnL l 4, rnL l 60)) = some ([.i 22 (.il 0)], 0, 60) := by
  intro y1 y2
  cases y1 <;> cases y2 <;> kernel_rfl
set_option maxRecDepth 100000 in
theorem ad_in2 : ∀ y1 y2 : Bool, (matchS 4 (adT Try.prog Try.f52) (adSB (lfAt (adRB Try.prog Try.f52 (adB2 Try.prog Try.f52 y1 y2)) 2))).map (fun l => (noU l, rnL l 4, rnL l 60)) = some ([.i 22 (.il 0)], 0, 60) := by
  intro y1 y2
  cases y1 <;> cases y2 <;> kernel_rfl
set_option maxRecDepth 100000 in
theorem ad_in1 : ∀ z1 z2 y1 y2 : Bool, (matchS 4 (adT Try.prog Try.f52) (adSB (lfAt (adRB Try.prog Try.f52 (adB1 Try.prog Try.f52 z1 z2 y1 y2)) 2))).map (fun l => (noU l, rnL l 4, rnL l 60)) = some ([.i 22 (.il 0)], 0, 60) := by
  intro z1 z2 y1 y2
  cases z1 <;> cases z2 <;> cases y1 <;> cases y2 <;> kernel_rfl
set_option maxRecDepth 100000 in
theorem ad_run1 : ∀ rt d z1 z2 : Bool, shR 62 none (adR1 Try.prog Try.f52 rt d z1 z2) = some [.out 0 .normal [(.lt (.iv 22) (.iv 21))], .out 1 (.exit 1) [.not (.lt (.iv 22) (.iv 21))]] := by
  intro rt d z1 z2
  cases rt <;> cases d <;> cases z1 <;> cases z2 <;> kernel_rfl
set_option maxRecDepth 100000 in
theorem ad_on_m : ∀ rt d z1 z2 : Bool, (matchS 4 (adT Try.prog Try.f52) (lfAt (adR1 Try.prog Try.f52 rt d z1 z2) 0)).map (fun l => (noU l, rnL l 4, rnL l 60)) = some ([.i 22 (.add (.iv 22) (.il 1))], bif d then (bif z2 then 118 else 8) else (bif z1 then 118 else 6), 60) := by
  intro rt d z1 z2
  cases rt <;> cases d <;> cases z1 <;> cases z2 <;> kernel_rfl
/-- The node when its kid has been made. -/
def ndNew (rt d z1 z2 : Bool) : Bk := ⟨4, bif rt then 165 else 163, (bif d then [kc 6 z1, .ptr 118 0] else [.ptr 118 0, kc 8 z2]) ++ [.bool (.bv 32), .int .i64 (.iv 33)] ++ (bif rt then [.int .i64 (.iv 34)] else []), true, none, .no⟩
def newK : Bk := ⟨118, 163, [.nptr, .nptr, .bool (.bl false), .int .i64 (.il 0)], true, none, .no⟩
set_option maxRecDepth 100000 in
theorem ad_new : ∀ rt d z1 z2 : Bool, (bif d then z2 else z1) = true → (find 118 (lfAt (adR1 Try.prog Try.f52 rt d z1 z2) 0).hp, find 4 (lfAt (adR1 Try.prog Try.f52 rt d z1 z2) 0).hp) = (some newK, some (ndNew rt d z1 z2)) := by
  intro rt d z1 z2 h
  cases rt <;> cases d <;> cases z1 <;> cases z2 <;> first | (cases h; done) | kernel_rfl
set_option maxRecDepth 100000 in
theorem ad_same : ∀ rt d z1 z2 : Bool, (bif d then z2 else z1) = false → find 4 (lfAt (adR1 Try.prog Try.f52 rt d z1 z2) 0).hp = some (ndB rt z1 z2 true) := by
  intro rt d z1 z2 h
  cases rt <;> cases d <;> cases z1 <;> cases z2 <;> first | (cases h; done) | kernel_rfl
set_option maxRecDepth 100000 in
theorem ad_out : ∀ rt d z1 z2 : Bool, find 4 (lfAt (adR1 Try.prog Try.f52 rt d z1 z2) 1).hp = some (ndB rt z1 z2 true) := by
  intro rt d z1 z2
  cases rt <;> cases d <;> cases z1 <;> cases z2 <;> kernel_rfl
/-! Its end. -/
def adX (P : Program) (fn : Func) : Sy.St := tplK { adT P fn with hp := [] } [0, 2] [(8, .one (.c (.ptr 4 0)))] [] ⟨[i64B 24], []⟩ 50
def adX0 (P : Program) (fn : Func) : Sy.St := { adX P fn with tm := (adX P fn).tm.set 8 (.one (.c (.ptr 0 0))) }
def adS0 (P : Program) (fn : Func) (z1 z2 : Bool) : Sy.St := ndSG (adX0 P fn) 0 6 32 true z1 z2 true
def adS1 (P : Program) (fn : Func) (z1 z2 y1 y2 : Bool) : Sy.St := ndSG (ndSG (adX P fn) 4 6 32 false z1 z2 true) 0 12 36 true y1 y2 true
def adR2 (P : Program) (fn : Func) (s : Sy.St) : Rs := run P [] 10 400 50 (.code (aft (.exit 1) adQ (adRe fn))) s
set_option maxRecDepth 100000 in
theorem ad_x_m : ∀ rt d z1 z2 : Bool, (matchS 4 (adX Try.prog Try.f52) (lfAt (adR1 Try.prog Try.f52 rt d z1 z2) 1)).map (fun l => (noU l, rnL l 4)) = some ([], 4) := by
  intro rt d z1 z2
  cases rt <;> cases d <;> cases z1 <;> cases z2 <;> kernel_rfl
set_option maxRecDepth 100000 in
theorem ad_x : (adX Try.prog Try.f52).hp = [] ∧ (adX Try.prog Try.f52).cx = ⟨[i64B 24], []⟩ ∧ (lowSt 32 (adX Try.prog Try.f52) && (((adX Try.prog Try.f52).free 6 && (adX Try.prog Try.f52).free 7) && ((adX Try.prog Try.f52).free 8 && (adX Try.prog Try.f52).free 9))) = true := by
  refine ⟨?_, ?_, ?_⟩ <;> kernel_rfl
set_option maxRecDepth 100000 in
theorem ad_x8 : (adX Try.prog Try.f52).tm.getD 8 undS = .one (.c (.ptr 4 0)) := by kernel_rfl
set_option maxRecDepth 100000 in
theorem ad_x0 : (lowSt 32 (adX0 Try.prog Try.f52) && (((adX0 Try.prog Try.f52).free 6 && (adX0 Try.prog Try.f52).free 7) && ((adX0 Try.prog Try.f52).free 8 && (adX0 Try.prog Try.f52).free 9))) = true := by kernel_rfl
set_option maxRecDepth 100000 in
theorem ad_x1 : ∀ z1 z2 : Bool, (lowSt 36 (ndSG (adX Try.prog Try.f52) 4 6 32 false z1 z2 true) && (((ndSG (adX Try.prog Try.f52) 4 6 32 false z1 z2 true).free 12 && (ndSG (adX Try.prog Try.f52) 4 6 32 false z1 z2 true).free 13) && ((ndSG (adX Try.prog Try.f52) 4 6 32 false z1 z2 true).free 14 && (ndSG (adX Try.prog Try.f52) 4 6 32 false z1 z2 true).free 15))) = true := by
  intro z1 z2
  cases z1 <;> cases z2 <;> kernel_rfl
set_option maxRecDepth 100000 in
theorem ad_end0 : ∀ z1 z2 : Bool, smR Try.prog Try.f52 50 (adR2 Try.prog Try.f52 (adS0 Try.prog Try.f52 z1 z2)) = some [.ret (.one (.c (.int .i64 (.il 0)))) [⟨0, 165, [kc 6 z1, kc 8 z2, .bool (.bl true), .int .i64 (.iv 24), .int .i64 (.add (.iv 34) (.il 1))], true, none, .no⟩] []] := by
  intro z1 z2
  cases z1 <;> cases z2 <;> kernel_rfl
set_option maxRecDepth 100000 in
theorem ad_end1 : ∀ z1 z2 y1 y2 : Bool, smR Try.prog Try.f52 50 (adR2 Try.prog Try.f52 (adS1 Try.prog Try.f52 z1 z2 y1 y2)) = some [.ret (.one (.c (.int .i64 (.il 0)))) [⟨0, 165, [kc 12 y1, kc 14 y2, .bool (.bv 36), .int .i64 (.iv 37), .int .i64 (.add (.iv 38) (.il 1))], true, none, .no⟩, ⟨4, 163, [kc 6 z1, kc 8 z2, .bool (.bl true), .int .i64 (.iv 24)], true, none, .no⟩] []] := by
  intro z1 z2 y1 y2
  cases z1 <;> cases z2 <;> cases y1 <;> cases y2 <;> kernel_rfl
end Go.Proofs.Ytnjpoidpfcfbeaa
/- Routes: the contract of Table.Add. -/
namespace Go.Proofs.Ytnjpoidpfcfbeaa
open Go.RowKit Sy
set_option linter.unusedVariables false
set_option linter.unusedSimpArgs false

namespace Sy
theorem ctx3 {P : Program} (c : Code) (Q : Exit → Act → World → Prop) : ctx P [1, 1, 1] c Q = Q := by
  have one : ∀ (p : List Nat), (∀ (c : Code) (Q : Exit → Act → World → Prop), ctx P p c Q = Q) → ∀ (c : Code) (Q : Exit → Act → World → Prop), ctx P (1 :: p) c Q = Q := fun p ih c Q => by
    cases c <;> first | exact ih _ _ | rfl
  exact one _ (one _ (one _ fun _ _ => rfl)) c Q
theorem aft_finC {P : Program} {B : Bs} {sp : List Spec} (hρ : B.ρ.good) (hsp : ∀ q ∈ sp, q.Ok P B.ρ) {lim fuel n0 : Nat} (hn : B.n0 = n0) (e : Ex) {p : List Nat} {fn : Func} {c : Code} {s : St} {ys : List Sm} (hrun : smR P fn n0 (run P sp lim fuel n0 (.code (aft e p c)) s) = some ys) {R : Value → World → Prop} (hR : AllL (Sm.done B R) ys)
    {β : Bn} {a : Act} {w : World} (hM : B.Md s β a w) : ctx P p c (bodyPost P fn (RetP R)) e.to a w := by
  subst hn
  unfold smR at hrun
  split at hrun
  · rename_i l hl
    exact aft_wp hρ hsp rfl e p c _ fuel s l hl (done_ok (smL_ok hrun hR)) β a w hM
  · cases hrun
end Sy
/-- A slot told anew. -/
theorem Md.retell {ρ : Env} {S : Nat → Prop} {w0 w : World} {β0 β : Bn} {n0 : Nat} {s : Sy.St} {a : Act} (hM : Md ρ S w0 β0 n0 s β a w) (d : Nat) (v : SV) (h : v.den ρ β = (s.tm.getD d undS).den ρ β) : Md ρ S w0 β0 n0 { s with tm := s.tm.set d v } β a w :=
  ⟨by rw [hM.act]; show (⟨_, []⟩ : Act) = ⟨((s.tm.set d v).map (SV.den ρ β)).toArray, []⟩; rw [set_getD_map (SV.den ρ β) undS s.tm d v h], hM.hp, hM.ne, hM.may, hM.cx, hM.only, hM.old⟩
/-- What a call leaves of the table. -/
def TabGo (w w' : World) (g : Nat) (F : List Nat) (C' : Rws) : Prop := ∃ F', Sub w' (some (C'.length : Int)) 0 0 (ptv g) F' C' ∧ Only (fun i => i ∈ F) w w' ∧ ∀ i ∈ F', i ∈ F ∨ w.heap.size ≤ i
def AdPost (w : World) (g : Nat) (F : List Nat) (C : Rws) (a n via : Int) (v : Value) (w' : World) : Prop := v = .int .i64 (adC C a n) ∧ TabGo w w' g F (adR C a n via)
structure AdE (a n via : Int) (ρ : Env) : Prop where
  good : ρ.good
  i20 : ρ.i 20 = a
  i21 : ρ.i 21 = n
  i24 : ρ.i 24 = via
  v0 : -9223372036854775808 ≤ via
  v1 : via ≤ 9223372036854775807
def gF (g : Nat) (F : List Nat) : Bn := fun l => if l = 0 then g else if l = 1 then bitsOf F else 0
/-- Nothing but that block has turned, and it is as it was. -/
theorem same_all {w w' : World} {b : Nat} (ho : Only (fun i => i = b) w w') (h : w'.heap[b]? = w.heap[b]?) : Below w.heap.size w w' :=
  ⟨ho.os, ho.tape, ho.output, ho.size, fun i hi => by
    by_cases e : i = b
    · rw [e]; exact h
    · exact ho.block i hi e⟩
theorem tab_same {w w' : World} {g : Nat} {F : List Nat} {C : Rws} (h : Sub w (some (C.length : Int)) 0 0 (ptv g) F C) (hb : Below w.heap.size w w') : TabGo w w' g F C :=
  ⟨F, h.keep fun i hi => hb.block i (h.lt i hi), Only.of_below hb _, fun i hi => .inl hi⟩
section
variable {w w' : World} {o : Option Int} {k : Nat} {a : Int} {b : Nat} {F : List Nat} {c : Rws} {p1 p2 : Value} {F1 F2 : List Nat} {c1 c2 : Rws} {s : Bool} {v : Int}
/-- Is the place's own route there? -/
theorem Nd.any (h : Nd w o k a b F c p1 p2 F1 F2 c1 c2 s v) {pre post : Rws} (lo : ∀ r ∈ pre, key r < a * 64 + k) (hi : ∀ r ∈ post, (a + wid k) * 64 ≤ key r) (a0 : 0 ≤ a) (al : wid k ∣ a) (a1 : a + wid k ≤ 4294967296) : (pre ++ (c ++ post)).any (isP a k) = s ∧ (∀ r ∈ c1 ++ c2, a * 64 + k < key r) ∧ ∀ r ∈ post, a * 64 + k < key r := by
  have hw := wid_pos k
  have hw1 := wid_pos (k + 1)
  have hk := h.hk
  have hpost : ∀ r ∈ post, a * 64 + k < key r := fun r hr => by have := hi r hr; omega
  have hmid : ∀ r ∈ c1 ++ c2, a * 64 + k < key r := fun r hr => by
    by_cases e : k = 32
    · rw [h.k1.deep (by omega), h.k2.deep (by omega)] at hr
      cases hr
    · obtain ⟨l1, l2⟩ := al_kid (k := k) (by omega) al
      have hh := wid_half (k := k) (by omega)
      rcases List.mem_append.1 hr with hr | hr
      · have := (h.k1.rows a0 l1 (by omega) r hr).key_lo; omega
      · have := (h.k2.rows (by omega) l2 (by omega) r hr).key_lo; omega
  refine ⟨?_, hmid, hpost⟩
  rw [h.hc]
  cases s with
  | false => exact any_mid lo hmid hpost
  | true =>
    rw [List.any_eq_true]
    refine ⟨mkR a k v, List.mem_append_right _ (List.mem_append_left _ (List.mem_append_left _ (List.mem_cons_self ..))), ?_⟩
    obtain ⟨_, e0, e1, _⟩ := InP.own hk a0 al a1 h.v0 h.v1
    exact decide_eq_true ⟨e0, e1⟩
end
def AdJ (w : World) (g : Nat) (m : Int) (F : List Nat) (C : Rws) (a n via : Int) (ρ : Env) (ac : Act) (w' : World) : Prop :=
  ∃ k pre post o ak b F' c', Place w F g m pre post w' o k ak b F' c' ∧ C = pre ++ (c' ++ post) ∧ AdE a n via ρ ∧ ρ.i 22 = (k : Int) ∧ (k : Int) ≤ n ∧ ak ≤ a ∧ a < ak + wid k ∧ Only (fun i => i ∈ F) w w' ∧ ∃ β, Md ρ No w' (gF g F) 4 (adT Try.prog Try.f52) β ac w' ∧ β 4 = b ∧ β 60 ∉ F'
section
variable {w : World} {g : Nat} {F : List Nat} {C : Rws} {a n via : Int}
theorem AdE.cx0 {ρ : Env} (E : AdE a n via ρ) (a0 : 0 ≤ a) (a1 : a ≤ 4294967295) (n0 : 0 ≤ n) (n1 : n ≤ 32) : bdsP ρ adCx0.bs := by
  refine ⟨?_, ?_, ?_, trivial⟩
  · show (0 : Int) ≤ ρ.i 20 ∧ ρ.i 20 ≤ 4294967295
    rw [E.i20]; exact ⟨a0, a1⟩
  · show (0 : Int) ≤ ρ.i 21 ∧ ρ.i 21 ≤ 32
    rw [E.i21]; exact ⟨n0, n1⟩
  · show _ ≤ ρ.i 24 ∧ ρ.i 24 ≤ _
    rw [E.i24]; exact ⟨E.v0, E.v1⟩
theorem AdE.cx {ρ : Env} (E : AdE a n via ρ) {k : Nat} (hk : ρ.i 22 = (k : Int)) (a0 : 0 ≤ a) (a1 : a ≤ 4294967295) (n0 : 0 ≤ n) (n1 : n ≤ 32) (hkn : (k : Int) ≤ n) : (adT Try.prog Try.f52).cx.ok ρ := by
  rw [ad_cx]
  refine cxP ⟨?_, E.cx0 a0 a1 n0 n1⟩ trivial
  show (0 : Int) ≤ ρ.i 22 ∧ ρ.i 22 ≤ 32
  rw [hk]; omega
/-- A frame without blocks that may be written, built anew. -/
theorem Md.ro1 {ρ : Env} {S S' : Nat → Prop} {w0 w' : World} {β0 β0' β : Bn} {n0 n : Nat} {s : Sy.St} {ac : Act} (hM : Md ρ S w0 β0 n0 s β ac w') (hb : s.hp = [boxK false]) (ho : ∀ l, l < n → β l = β0' l) : Md ρ S' w' β0' n s β ac w' :=
  ⟨hM.act, hM.hp, hM.ne, fun x hx hw => (by rw [hb] at hx; rw [List.mem_singleton.1 hx] at hw; cases hw), hM.cx, Only.refl _ _, ho⟩
set_option maxRecDepth 100000 in
set_option maxHeartbeats 1000000 in
theorem ad_fin (h : Sub w (some (C.length : Int)) 0 0 (ptv g) F C) (l64 : C.length < 64) (a0 : 0 ≤ a) (a1 : a ≤ 4294967295) (hc : chkN a n = 0) (hany : C.any (isP a n) = false) {pre post : Rws} {o : Option Int} {ak : Int} {b : Nat} {F' : List Nat} {c' : Rws} {k : Nat} {w2 : World} (P : Place w F g (C.length : Int) pre post w2 o k ak b F' c') (hC : C = pre ++ (c' ++ post)) (hkn : (k : Int) = n) (x0 : ak ≤ a) (x1 : a < ak + wid k) (hO : Only (fun i => i ∈ F) w w2)
    {ρ : Env} (E : AdE a n via ρ) {β : Bn} {ac : Act} (M : Md ρ No w2 (gF g F) 4 (adX Try.prog Try.f52) β ac w2) (hb : β 4 = b) : ctx Try.prog adQ (adRe Try.f52) (bodyPost Try.prog Try.f52 (RetP (AdPost w g F C a n via))) (Ex.exit 1).to ac w2 := by
  obtain ⟨n0, n1, nal⟩ := chk_0 hc
  have hgF := h.root_in
  have hglt := h.lt g hgF
  have hak : ak = a := by
    have ekn : n.toNat = k := by omega
    have hal : wid k ∣ a := by rw [← ekn]; exact Int.dvd_of_emod_eq_zero nal
    obtain ⟨u, hu⟩ := P.al
    obtain ⟨t, ht⟩ := hal
    have hw := wid_pos k
    have h1 : wid k * u ≤ wid k * t := by omega
    have h2 : wid k * t < wid k * (u + 1) := by rw [Int.mul_add]; omega
    have h3 := Int.le_of_mul_le_mul_left h1 (by omega)
    have h4 := Int.lt_of_mul_lt_mul_left h2 (by omega)
    have : t = u := by omega
    rw [hu, ht, this]
  subst hak
  subst hkn
  obtain ⟨p1, p2, F1, F2, c1, c2, s, v, N⟩ := P.sub.opn rfl
  obtain ⟨hs, hmid, hpost⟩ := N.any P.lo P.hi P.a0 P.al P.a1
  rw [← hC, hany] at hs
  subst hs
  have hadC : adC C ak k = 0 := by
    unfold adC
    rw [if_neg (by omega), hany]
    simp only [Bool.false_eq_true, if_false]
    rw [if_neg (by omega)]
  have hins : insL C ak k via = pre ++ (mkR ak k via :: ((c1 ++ c2) ++ post)) := by
    rw [hC, N.hc]
    exact ins_mid P.lo hmid hpost
  have hlen : (insL C ak k via).length = C.length + 1 := by
    rw [hins, hC, N.hc]
    simp only [List.length_append, List.length_cons, ownR, Bool.false_eq_true, if_false, List.length_nil]
    omega
  have hadR : adR C ak k via = insL C ak k via := by unfold adR; rw [if_pos hadC]
  obtain ⟨x1', x2', x3'⟩ := ad_x
  simp only [Bool.and_eq_true] at x3'
  obtain ⟨lx, ⟨f6, f7⟩, f8, f9⟩ := x3'
  have hbF : b ∈ F' := by rw [N.hF]; exact List.mem_cons_self ..
  have hblt := P.sub.lt b hbF
  have hvia0 := E.v0
  have hvia1 := E.v1
  have M0 : Md ρ (fun i => i = b ∨ i = g) w2 β 4 (adX Try.prog Try.f52) β ac w2 := ⟨M.act, M.hp, M.ne, fun x hx => (by rw [x1'] at hx; cases hx), M.cx, Only.refl _ _, fun _ _ => rfl⟩
  have e0 : β 0 = g := M.old 0 (by decide)
  have hgo : ∀ {w4 : World}, Only (fun i => i = b ∨ i = g) w2 w4 → Only (fun i => i ∈ F) w w4 := fun ho => Sy.Only.after hO ho fun i hi => by
    rcases hi with rfl | rfl
    · exact P.inF _ hbF
    · exact .inl hgF
  rcases P.root with ⟨ho, hbg, hk0, ha0, hpre, hpos⟩ | ⟨ho, hgn⟩
  · subst ho hpre hpos
    have M1 : Md ρ (fun i => i = b ∨ i = g) w2 β 4 (adX0 Try.prog Try.f52) β ac w2 := Md.retell M0 8 (.one (.c (.ptr 0 0))) (by
      rw [ad_x8]
      show Value.pointer (some ⟨β 0, 0, none⟩) = .pointer (some ⟨β 4, 0, none⟩)
      rw [e0, hb, hbg])
    have q := ad_x0
    simp only [Bool.and_eq_true] at q
    obtain ⟨lx0, ⟨g6, g7⟩, g8, g9⟩ := q
    obtain ⟨β1, M2, q6, q8, ql⟩ := nd_inG 0 6 32 M1 N (e0.trans hbg.symm) (fun m' e => by injection e with e; omega) (by decide) (.inl (by decide)) lx0 (by rw [show (adX0 Try.prog Try.f52).free 6 = true from g6, show (adX0 Try.prog Try.f52).free (6 + 1) = true from g7, show (adX0 Try.prog Try.f52).free (6 + 2) = true from g8, show (adX0 Try.prog Try.f52).free (6 + 2 + 1) = true from g9]; rfl) true (fun x hx => by
      have hx : x ∈ (adX Try.prog Try.f52).hp := hx
      rw [x1'] at hx; cases hx) (fun _ => .inl (.inl rfl))
    have E2 := NdE.hi ρ 32 false v (some (C.length : Int))
    have i24 : (ρ.hi 32 (ndL false v (some (C.length : Int)))).i 24 = via := E.i24
    obtain ⟨ρ1, hρ1⟩ : ∃ ρ1, ρ.hi 32 (ndL false v (some (C.length : Int))) = ρ1 := ⟨_, rfl⟩
    have hgd : ρ1.good := hρ1 ▸ E.good
    rw [hρ1] at M2 E2 i24
    have M3 : Md ρ1 (fun i => i = b ∨ i = g) w2 β1 50 (adS0 Try.prog Try.f52 (kidZ p1) (kidZ p2)) β1 ac w2 := ⟨M2.act, M2.hp, M2.ne, M2.may, M2.cx, M2.only, fun _ _ => rfl⟩
    refine aft_finC (B := ⟨ρ1, fun i => i = b ∨ i = g, w2, β1, 50⟩) (sp := []) (lim := 10) (fuel := 400) hgd (fun q hq => by cases hq) rfl (.exit 1) (ad_end0 _ _) ⟨?_, trivial⟩ M3
    intro _ β4 w4 hH
    have hold : ∀ l, l < 50 → β4 l = β1 l := fun l hl => hH.old l hl
    have hB : Blk w4 (β4 0) 165 (denL ρ1 β4 [kc 6 (kidZ p1), kc 8 (kidZ p2), .bool (.bl true), .int .i64 (.iv 24), .int .i64 (.add (.iv 34) (.il 1))]) := hH.hp _ (List.mem_cons_self ..)
    have eB : denL ρ1 β4 [kc 6 (kidZ p1), kc 8 (kidZ p2), .bool (.bl true), .int .i64 (.iv 24), .int .i64 (.add (.iv 34) (.il 1))] = ndC p1 p2 true via (some ((C.length + 1 : Nat) : Int)) := by
      show [(kc 6 (kidZ p1)).den ρ1 β4, (kc 8 (kidZ p2)).den ρ1 β4, Value.bool true, .int .i64 (ρ1.i 24), .int .i64 (ρ1.i 34 + 1)] = _
      rw [kc_den N.k1 ρ1 β4 6 ((hold 6 (by decide)).trans q6), kc_den N.k2 ρ1 β4 8 ((hold 8 (by decide)).trans q8), i24, show ρ1.i 34 = (C.length : Int) from E2.m]
      rfl
    rw [eB, (hold 0 (by decide)).trans ((ql 0 (.inl (by decide))).trans e0), ← hbg] at hB
    refine ⟨?_, ?_⟩
    · show Value.int .i64 0 = _
      rw [hadC]
    · rw [hadR]
      have hd := N.hd
      have hd' := hd
      rw [List.nodup_cons] at hd'
      refine ⟨F', ?_, hgo hH.only, fun i hi => P.inF i hi⟩
      rw [hlen, hins, N.hF, ← hbg]
      have hkk : k = 0 := hk0
      subst hkk
      have haa : ak = 0 := ha0
      have K := Sub.node (o := some ((C.length + 1 : Nat) : Int)) N.hk hB (N.k1.keep (w' := w4) fun i hi => hH.only.block i (N.k1.lt i hi) fun q => hd'.1 (List.mem_append_left _ ((q.elim id fun q => q.trans hbg.symm) ▸ hi))) (N.k2.keep (w' := w4) fun i hi => hH.only.block i (N.k2.lt i hi) fun q => hd'.1 (List.mem_append_right _ ((q.elim id fun q => q.trans hbg.symm) ▸ hi))) hd hvia0 hvia1
      rw [haa] at K ⊢
      simpa [ownR] using K
  · subst ho
    obtain ⟨β1, M1, q6, q8, ql⟩ := nd_inG 4 6 32 M0 N hb (fun m' e => by cases e) (by decide) (.inl (by decide)) lx (by rw [show (adX Try.prog Try.f52).free 6 = true from f6, show (adX Try.prog Try.f52).free (6 + 1) = true from f7, show (adX Try.prog Try.f52).free (6 + 2) = true from f8, show (adX Try.prog Try.f52).free (6 + 2 + 1) = true from f9]; rfl) true (fun x hx => by
      rw [x1'] at hx; cases hx) (fun _ => .inl (.inl rfl))
    obtain ⟨F3, R3, hF3⟩ := P.put (w' := w2) (F' := F') (c' := c') (Only.refl _ _) P.sub (fun i hi => .inl hi)
    rw [← hC] at R3
    obtain ⟨r1, r2, G1, G2, d1, d2, s0, v0, R⟩ := R3.opn rfl
    have q := ad_x1 (kidZ p1) (kidZ p2)
    simp only [Bool.and_eq_true] at q
    obtain ⟨lx1, ⟨g6, g7⟩, g8, g9⟩ := q
    have E2a := NdE.hi ρ 32 false v none
    have i24a : (ρ.hi 32 (ndL false v none)).i 24 = via := E.i24
    obtain ⟨ρ1, hρ1⟩ : ∃ ρ1, ρ.hi 32 (ndL false v none) = ρ1 := ⟨_, rfl⟩
    have hgd1 : ρ1.good := hρ1 ▸ E.good
    rw [hρ1] at M1 E2a i24a
    have hbg : b ≠ g := fun e => hgn (e ▸ hbF)
    have e40 : β1 4 = b := (ql 4 (.inl (by decide))).trans hb
    have e00 : β1 0 = g := (ql 0 (.inl (by decide))).trans e0
    obtain ⟨β2, M2, t6, t8, tl⟩ := nd_inG 0 12 36 M1 R e00 (fun m' e => by injection e with e; omega) (by decide) (.inl (by decide)) lx1 (by
      show ((St.free (ndSG (adX Try.prog Try.f52) 4 6 32 false (kidZ p1) (kidZ p2) true) 12 && St.free (ndSG (adX Try.prog Try.f52) 4 6 32 false (kidZ p1) (kidZ p2) true) 13) && (St.free (ndSG (adX Try.prog Try.f52) 4 6 32 false (kidZ p1) (kidZ p2) true) 14 && St.free (ndSG (adX Try.prog Try.f52) 4 6 32 false (kidZ p1) (kidZ p2) true) 15)) = true
      rw [g6, g7, g8, g9]; rfl) true (fun x hx hrx hfx => by
      have hx : x ∈ ndG 4 6 32 false (kidZ p1) (kidZ p2) true :: (adX Try.prog Try.f52).hp := hx
      rw [x1'] at hx
      rw [List.mem_singleton.1 hx] at hfx
      exact hbg (((fp_one rfl hfx).trans e40).symm)) (fun _ => .inl (.inr rfl))
    have E2 := NdE.hi ρ1 36 s0 v0 (some (C.length : Int))
    have i24 : (ρ1.hi 36 (ndL s0 v0 (some (C.length : Int)))).i 24 = via := i24a
    obtain ⟨ρ2, hρ2⟩ : ∃ ρ2, ρ1.hi 36 (ndL s0 v0 (some (C.length : Int))) = ρ2 := ⟨_, rfl⟩
    have hgd : ρ2.good := hρ2 ▸ hgd1
    rw [hρ2] at M2 E2 i24
    have M3 : Md ρ2 (fun i => i = b ∨ i = g) w2 β2 50 (adS1 Try.prog Try.f52 (kidZ p1) (kidZ p2) (kidZ r1) (kidZ r2)) β2 ac w2 := ⟨M2.act, M2.hp, M2.ne, M2.may, M2.cx, M2.only, fun _ _ => rfl⟩
    refine aft_finC (B := ⟨ρ2, fun i => i = b ∨ i = g, w2, β2, 50⟩) (sp := []) (lim := 10) (fuel := 400) hgd (fun q hq => by cases hq) rfl (.exit 1) (ad_end1 _ _ _ _) ⟨?_, trivial⟩ M3
    intro _ β4 w4 hH
    have hold : ∀ l, l < 50 → β4 l = β2 l := fun l hl => hH.old l hl
    have hR : Blk w4 (β4 0) 165 (denL ρ2 β4 [kc 12 (kidZ r1), kc 14 (kidZ r2), .bool (.bv 36), .int .i64 (.iv 37), .int .i64 (.add (.iv 38) (.il 1))]) := hH.hp _ (List.mem_cons_self ..)
    have hB : Blk w4 (β4 4) 163 (denL ρ2 β4 [kc 6 (kidZ p1), kc 8 (kidZ p2), .bool (.bl true), .int .i64 (.iv 24)]) := hH.hp _ (List.mem_cons_of_mem _ (List.mem_cons_self ..))
    have eR : denL ρ2 β4 [kc 12 (kidZ r1), kc 14 (kidZ r2), .bool (.bv 36), .int .i64 (.iv 37), .int .i64 (.add (.iv 38) (.il 1))] = ndC r1 r2 s0 v0 (some ((C.length + 1 : Nat) : Int)) := by
      show [(kc 12 (kidZ r1)).den ρ2 β4, (kc 14 (kidZ r2)).den ρ2 β4, Value.bool (ρ2.b 36), .int .i64 (ρ2.i 37), .int .i64 (ρ2.i 38 + 1)] = _
      rw [kc_den R.k1 ρ2 β4 12 ((hold 12 (by decide)).trans t6), kc_den R.k2 ρ2 β4 14 ((hold 14 (by decide)).trans t8), show ρ2.b 36 = s0 from E2.st, show ρ2.i 37 = v0 from E2.v, show ρ2.i 38 = (C.length : Int) from E2.m]
      rfl
    have eB : denL ρ2 β4 [kc 6 (kidZ p1), kc 8 (kidZ p2), .bool (.bl true), .int .i64 (.iv 24)] = ndC p1 p2 true via none := by
      show [(kc 6 (kidZ p1)).den ρ2 β4, (kc 8 (kidZ p2)).den ρ2 β4, Value.bool true, .int .i64 (ρ2.i 24)] = _
      rw [kc_den N.k1 ρ2 β4 6 ((hold 6 (by decide)).trans ((tl 6 (.inl (by decide))).trans q6)), kc_den N.k2 ρ2 β4 8 ((hold 8 (by decide)).trans ((tl 8 (.inl (by decide))).trans q8)), i24]
      rfl
    rw [eR, (hold 0 (by decide)).trans ((tl 0 (.inl (by decide))).trans e00)] at hR
    rw [eB, (hold 4 (by decide)).trans ((tl 4 (.inl (by decide))).trans e40)] at hB
    have hd := N.hd
    have hd' := hd
    rw [List.nodup_cons] at hd'
    have hgk : ∀ i, i ∈ F' → i ≠ g := fun i hi e => hgn (e ▸ hi)
    have in1 : ∀ i ∈ F1, i ∈ F' := fun i hi => by rw [N.hF]; exact List.mem_cons_of_mem _ (List.mem_append_left _ hi)
    have in2 : ∀ i ∈ F2, i ∈ F' := fun i hi => by rw [N.hF]; exact List.mem_cons_of_mem _ (List.mem_append_right _ hi)
    have K := Sub.node (o := none) N.hk hB (N.k1.keep (w' := w4) fun i hi => hH.only.block i (N.k1.lt i hi) fun q => q.elim (fun q => hd'.1 (List.mem_append_left _ (q ▸ hi))) (hgk i (in1 i hi))) (N.k2.keep (w' := w4) fun i hi => hH.only.block i (N.k2.lt i hi) fun q => q.elim (fun q => hd'.1 (List.mem_append_right _ (q ▸ hi))) (hgk i (in2 i hi))) hd hvia0 hvia1
    obtain ⟨F4, k1, k2⟩ := P.put2 (m' := ((C.length + 1 : Nat) : Int)) (hH.only.mono fun i _ hi => hi.imp (fun e => (show i ∈ F' by rw [show i = b from e]; exact hbF)) fun e => e) K (fun i hi => .inl (by rw [N.hF]; exact hi)) R.blk hR
    refine ⟨?_, ?_⟩
    · show Value.int .i64 0 = _
      rw [hadC]
    · rw [hadR]
      refine ⟨F4, ?_, hgo hH.only, k2⟩
      rw [hlen, hins]
      simpa [ownR] using k1
end
end Go.Proofs.Ytnjpoidpfcfbeaa
/- Routes: Table.Add's loop; its contract. -/
namespace Go.Proofs.Ytnjpoidpfcfbeaa
open Go.RowKit Sy
set_option linter.unusedVariables false
set_option linter.unusedSimpArgs false

section
variable {w : World} {g : Nat} {F : List Nat} {C : Rws} {a n via : Int}
/-- The place's kid. -/
theorem Place.kid {w0 : World} {F0 : List Nat} {m : Int} {pre post : Rws} {w : World} {o : Option Int} {k : Nat} {ak : Int} {b : Nat} {F' : List Nat} {c' : Rws} {p1 p2 : Value} {F1 F2 : List Nat} {c1 c2 : Rws} {s : Bool} {v : Int} (P : Place w0 F0 g m pre post w o k ak b F' c') (N : Nd w o k ak b F' c' p1 p2 F1 F2 c1 c2 s v) {d : Bool} {x : Nat} (hp : (bif d then p2 else p1) = ptv x) (hd : decide (ak + wid (k + 1) ≤ a) = d) (x0 : ak ≤ a) (x1 : a < ak + wid k) :
    ∃ pre' post' ak' F'' c'', Place w0 F0 g m pre' post' w none (k + 1) ak' x F'' c'' ∧ pre ++ (c' ++ post) = pre' ++ (c'' ++ post') ∧ ak' ≤ a ∧ a < ak' + wid (k + 1) ∧ ∀ i ∈ F'', i ∈ F' := by
  have hk := Place.klt N hp
  have hh := wid_half hk
  cases d with
  | false =>
    have hd' := of_decide_eq_false hd
    refine ⟨_, _, _, _, _, P.kid0 N hp, ?_, x0, by omega, fun i hi => by rw [N.hF]; exact List.mem_cons_of_mem _ (List.mem_append_left _ hi)⟩
    rw [N.hc]; simp only [List.append_assoc]
  | true =>
    have hd' := of_decide_eq_true hd
    refine ⟨_, _, _, _, _, P.kid1 N hp, ?_, hd', by omega, fun i hi => by rw [N.hF]; exact List.mem_cons_of_mem _ (List.mem_append_right _ hi)⟩
    rw [N.hc]; simp only [List.append_assoc]
/-- A kid that has come. -/
theorem nd_grown {w w2 : World} {o : Option Int} {k : Nat} {ak : Int} {b : Nat} {F' : List Nat} {c' : Rws} {p1 p2 : Value} {F1 F2 : List Nat} {c1 c2 : Rws} {s : Bool} {v : Int} (N : Nd w o k ak b F' c' p1 p2 F1 F2 c1 c2 s v) (hk : k < 32) {d : Bool} (hz : (bif d then p2 else p1) = nilp) {x : Nat} (hx : w.heap.size ≤ x) (ho : Only (fun i => i = b) w w2) (hB : Blk w2 b (tyO o) (ndC (bif d then p1 else ptv x) (bif d then ptv x else p2) s v o)) (hX : Blk w2 x 163 [nilp, nilp, .bool false, .int .i64 0]) :
    ∃ F'' G1 G2, Nd w2 o k ak b F'' c' (bif d then p1 else ptv x) (bif d then ptv x else p2) G1 G2 c1 c2 s v ∧ (∀ i ∈ F'', i ∈ F' ∨ w.heap.size ≤ i) := by
  have hd := N.hd
  have hd' := hd
  rw [List.nodup_cons, List.nodup_append] at hd'
  obtain ⟨h0, h1, h2, h3⟩ := hd'
  have hbl := N.blk.lt
  have X : ∀ (kk : Nat) (aa : Int), kk ≤ 32 → Sub w2 none kk aa (ptv x) [x] [] := fun kk aa hkk => by
    have := Sub.node (w := w2) (o := none) (a := aa) hkk hX (.nil (kk + 1) aa) (.nil (kk + 1) (aa + wid (kk + 1))) (by simp) (by decide) (by decide)
    simpa [ownR] using this
  cases d with
  | false =>
    have hz : p1 = nilp := hz
    have K := N.k1
    rw [hz] at K
    rcases K.shape with ⟨_, eF, ec⟩ | ⟨q, e⟩
    · subst eF ec
      refine ⟨b :: ([x] ++ F2), [x], F2, ⟨N.hk, hB, X (k + 1) ak (by omega), N.k2.keep fun i hi => ho.block i (N.k2.lt i hi) fun q => h0 (q ▸ List.mem_append_right _ hi), ?_, N.v0, N.v1, rfl, N.hc⟩, fun i hi => ?_⟩
      · rw [List.nodup_cons, List.nodup_append]
        refine ⟨fun q => ?_, by simp, h2, fun y hy z hz e => ?_⟩
        · rcases List.mem_append.1 q with q | q
          · rw [List.mem_singleton] at q; omega
          · exact h0 (List.mem_append_right _ q)
        · rw [List.mem_singleton] at hy
          have := N.k2.lt z hz
          omega
      · rcases List.mem_cons.1 hi with rfl | hi
        · exact .inl (by rw [N.hF]; exact List.mem_cons_self ..)
        rcases List.mem_append.1 hi with hi | hi
        · rw [List.mem_singleton] at hi
          exact .inr (by omega)
        · exact .inl (by rw [N.hF]; exact List.mem_cons_of_mem _ (List.mem_append_right _ hi))
    · cases e
  | true =>
    have hz : p2 = nilp := hz
    have K := N.k2
    rw [hz] at K
    rcases K.shape with ⟨_, eF, ec⟩ | ⟨q, e⟩
    · subst eF ec
      refine ⟨b :: (F1 ++ [x]), F1, [x], ⟨N.hk, hB, N.k1.keep fun i hi => ho.block i (N.k1.lt i hi) fun q => h0 (q ▸ List.mem_append_left _ hi), X (k + 1) (ak + wid (k + 1)) (by omega), ?_, N.v0, N.v1, rfl, N.hc⟩, fun i hi => ?_⟩
      · rw [List.nodup_cons, List.nodup_append]
        refine ⟨fun q => ?_, h1, by simp, fun y hy z hz e => ?_⟩
        · rcases List.mem_append.1 q with q | q
          · exact h0 (List.mem_append_left _ q)
          · rw [List.mem_singleton] at q; omega
        · rw [List.mem_singleton] at hz
          have := N.k1.lt y hy
          omega
      · rcases List.mem_cons.1 hi with rfl | hi
        · exact .inl (by rw [N.hF]; exact List.mem_cons_self ..)
        rcases List.mem_append.1 hi with hi | hi
        · exact .inl (by rw [N.hF]; exact List.mem_cons_of_mem _ (List.mem_append_left _ hi))
        · rw [List.mem_singleton] at hi
          exact .inr (by omega)
    · cases e
theorem kidZ_nil {w : World} {k : Nat} {a : Int} {p : Value} {F : List Nat} {c : Rws} (h : Sub w none k a p F c) : (kidZ p = true ∧ p = nilp) ∨ (kidZ p = false ∧ p = ptv (kidA p)) := by
  rcases h.shape with ⟨e, _⟩ | ⟨g, e⟩
  · rw [e]; exact .inl ⟨rfl, rfl⟩
  · rw [e]; exact .inr ⟨rfl, rfl⟩
set_option maxRecDepth 100000 in
set_option maxHeartbeats 2000000 in
theorem ad_round (h : Sub w (some (C.length : Int)) 0 0 (ptv g) F C) (l64 : C.length < 64) (a0 : 0 ≤ a) (a1 : a ≤ 4294967295) (hc : chkN a n = 0) (hany : C.any (isP a n) = false) {ρ : Env} {ac : Act} {w' : World} (hJ : AdJ w g (C.length : Int) F C a n via ρ ac w') :
    (adLo Try.f52).wp Try.prog (Exit.then (fun a' w' => ∃ j : Env, (n - j.i 22).toNat < (n - ρ.i 22).toNat ∧ AdJ w g (C.length : Int) F C a n via j a' w') (ctx Try.prog adQ (adRe Try.f52) (bodyPost Try.prog Try.f52 (RetP (AdPost w g F C a n via))))) ac w' := by
  obtain ⟨n0, n1, nal⟩ := chk_0 hc
  obtain ⟨k, pre, post, o, ak, b, F', c', P, hC, E, i22, hkn, x0, x1, hO, β, M, hb, h60⟩ := hJ
  obtain ⟨p1, p2, F1, F2, c1, c2, s, v, N⟩ := P.sub.opn rfl
  have hgF := h.root_in
  have hglt := h.lt g hgF
  have hws := hO.size
  have hbF : b ∈ F' := by rw [N.hF]; exact List.mem_cons_self ..
  have hbl := P.sub.lt b hbF
  have hlow := ad_low
  simp only [Bool.and_eq_true] at hlow
  obtain ⟨hlow, ⟨f6, f7⟩, f8, f9⟩ := hlow
  have bx : (boxK false) ∈ (adT Try.prog Try.f52).hp := by rw [ad_hp]; exact List.mem_cons_self ..
  have M' : Md ρ (fun i => i = b) w' (gF g F) 4 (adT Try.prog Try.f52) β ac w' := Md.ro1 M ad_hp M.old
  obtain ⟨β1, M1, q6, q8, ql⟩ := nd_in M' N hb (fun m' e => by
    rcases P.root with ⟨e', _⟩ | ⟨e', _⟩
    · rw [e'] at e; injection e with e; omega
    · rw [e'] at e; cases e) (by decide) hlow (by rw [f6, f7, f8, f9]; rfl) true (fun x hx hrx hfx => by
      rw [ad_hp] at hx
      rw [List.mem_singleton.1 hx] at hfx
      exact h60 (fp_one rfl hfx ▸ hbF)) (fun _ => .inl rfl)
  have E1n := NdE.hi ρ 32 s v o
  obtain ⟨ρ1, hρ1⟩ : ∃ ρ1, ρ.hi 32 (ndL s v o) = ρ1 := ⟨_, rfl⟩
  rw [hρ1] at M1 E1n
  have E1 : AdE a n via ρ1 := by rw [← hρ1]; exact ⟨E.good, E.i20, E.i21, E.i24, E.v0, E.v1⟩
  have j22 : ρ1.i 22 = (k : Int) := by rw [← hρ1]; exact i22
  rw [i22, ← j22]
  have M2 : Md ρ1 (fun i => i = b) w' β1 62 (ndS (adT Try.prog Try.f52) o.isSome (kidZ p1) (kidZ p2) true) β1 ac w' := ⟨M1.act, M1.hp, M1.ne, M1.may, M1.cx, M1.only, fun _ _ => rfl⟩
  have e4 : β1 4 = b := (ql 4 (.inl (by decide))).trans hb
  have e60 : β1 60 = β 60 := ql 60 (.inr (by decide))
  have old : ∀ l, l < 4 → β1 l = gF g F l := fun l hl => (ql l (by omega)).trans (M.old l hl)
  have h60l : β 60 < w'.heap.size := by
    have : Blk w' (β 60) 29 [.int .u32 (ρ.i 20), .int .i64 (ρ.i 21)] := M.hp _ bx
    exact this.lt
  clear M M' M1 hρ1 E
  obtain ⟨d, hd⟩ : ∃ d, decide (ak + wid (k + 1) ≤ a) = d := ⟨_, rfl⟩
  have hsp : ∀ q ∈ [btSp d 22], q.Ok Try.prog ρ1 := fun q hq => by
    rw [List.mem_singleton.1 hq]
    refine btSp_ok (by rw [E1.i20]; exact a0) (by rw [E1.i20]; exact a1) (by rw [j22]; omega) fun h => ?_
    rw [j22] at h
    rw [E1.i20, j22, bit_of (by omega) P.al x0 x1 P.a0, hd]
  have nodeB : ∀ (x y : Sy.C) (w2 : World) (β2 : Bn), Blk w2 (β2 4) (bif o.isSome then 165 else 163) (denL ρ1 β2 (x :: y :: Sy.C.bool (.bv 32) :: Sy.C.int .i64 (.iv 33) :: (bif o.isSome then [Sy.C.int .i64 (.iv 34)] else []))) → β2 4 = b → Blk w2 b (tyO o) (ndC (x.den ρ1 β2) (y.den ρ1 β2) s v o) := fun x y w2 β2 hB e => by
    have := nd_den E1n β2 x y
    rw [show (32 + 1 : Nat) = 33 from rfl, show (32 + 2 : Nat) = 34 from rfl] at this
    rw [this, e] at hB
    cases o <;> exact hB
  -- the node is as it was
  have same : ∀ {st : Sy.St} {β2 : Bn} {a2 : Act} {w2 : World}, find 4 st.hp = some (ndB o.isSome (kidZ p1) (kidZ p2) true) → Md ρ1 (fun i => i = b) w' β1 62 st β2 a2 w2 → Below w'.heap.size w' w2 := fun {st β2 a2 w2} hf M3 => by
    have hB := nodeB (kc 6 (kidZ p1)) (kc 8 (kidZ p2)) w2 β2 (M3.hp _ (find_mem hf).1) ((M3.old 4 (by decide)).trans e4)
    rw [kc_den N.k1 ρ1 β2 6 ((M3.old 6 (by decide)).trans q6), kc_den N.k2 ρ1 β2 8 ((M3.old 8 (by decide)).trans q8)] at hB
    exact same_all M3.only (Eq.trans hB N.blk.symm)
  refine part_wp (B := ⟨ρ1, fun i => i = b, w', β1, 62⟩) (sp := [btSp d 22]) (lim := 10) (fuel := 400) E1.good hsp rfl (r := adR1 Try.prog Try.f52 o.isSome d (kidZ p1) (kidZ p2)) rfl (ad_run1 _ _ _ _) ⟨?_, ?_, trivial⟩ M2
  · intro hpc β2 a2 w2 M3
    have M3 : Md ρ1 (fun i => i = b) w' β1 62 (lfAt (adR1 Try.prog Try.f52 o.isSome d (kidZ p1) (kidZ p2)) 0) β2 a2 w2 := M3
    have q := hpc.1
    rw [t_lt] at q
    change ρ1.i 22 < ρ1.i 21 at q
    rw [j22, E1.i21] at q
    have hk : k < 32 := by omega
    have M4 : Md ρ1 (fun i => i = b) w' (gF g F) 4 (lfAt (adR1 Try.prog Try.f52 o.isSome d (kidZ p1) (kidZ p2)) 0) β2 a2 w2 := ⟨M3.act, M3.hp, M3.ne, M3.may, M3.cx, M3.only, fun l hl => (M3.old l (by omega)).trans (old l hl)⟩
    have E2 : ∀ u, AdE a n via { ρ1.sub β2 [.i 22 (.add (.iv 22) (.il 1))] with u := u } := fun u => ⟨E1.good, E1.i20, E1.i21, E1.i24, E1.v0, E1.v1⟩
    have t22 : ∀ u, ({ ρ1.sub β2 [.i 22 (.add (.iv 22) (.il 1))] with u := u } : Env).i 22 = ((k + 1 : Nat) : Int) := fun u => by show ρ1.i 22 + 1 = _; rw [j22]; rfl
    obtain ⟨u, β3, M5, e34, e360⟩ := Sy.Md.enterLL M4 (ad_on_m _ _ _ _) (fun u => (E2 u).cx (t22 u) a0 a1 n0 n1 (by omega))
    have M6 := Md.ro1 (S' := No) (β0' := gF g F) (n := 4) M5 ad_hp M5.old
    have k60 : β3 60 = β 60 := e360.trans ((M3.old 60 (by decide)).trans e60)
    have hO2 : Only (fun i => i ∈ F) w w2 := Sy.Only.after hO M3.only fun i hi => by rw [hi]; exact P.inF b hbF
    have hmu : (n - (ρ1.i 22 + 1)).toNat < (n - ρ1.i 22).toNat := by rw [j22]; omega
    have hz : kidZ (bif d then p2 else p1) = (bif d then kidZ p2 else kidZ p1) := by cases d <;> rfl
    have hkz : (kidZ (bif d then p2 else p1) = true ∧ (bif d then p2 else p1) = nilp) ∨ (kidZ (bif d then p2 else p1) = false ∧ (bif d then p2 else p1) = ptv (kidA (bif d then p2 else p1))) := by
      cases d with
      | false => exact kidZ_nil N.k1
      | true => exact kidZ_nil N.k2
    refine ⟨({ ρ1.sub β2 [.i 22 (.add (.iv 22) (.il 1))] with u := u } : Env), hmu, ?_⟩
    rcases hkz with ⟨zt, hnil⟩ | ⟨zf, hptr⟩
    · rw [hz] at zt
      obtain ⟨nb1, nb2⟩ := Prod.mk.inj (ad_new o.isSome d (kidZ p1) (kidZ p2) zt)
      have hX : Blk w2 (β2 118) 163 [nilp, nilp, .bool false, .int .i64 0] := M3.hp _ (find_mem nb1).1
      have hfr : w'.heap.size ≤ β2 118 := by
        rcases M3.may0 _ (find_mem nb1).1 rfl (.inl rfl) with q | q
        · have := M3.neq _ (find_mem nb1).1 _ (find_mem nb2).1 (show (118 : Nat) ≠ 4 by decide) (.inl rfl) (.inl rfl)
          exact absurd (q.trans ((M3.old 4 (by decide)).trans e4).symm) this
        · exact q
      have hB : Blk w2 b (tyO o) (ndC (bif d then p1 else ptv (β2 118)) (bif d then ptv (β2 118) else p2) s v o) := by
        have hB0 := M3.hp _ (find_mem nb2).1
        have e42 : β2 4 = b := (M3.old 4 (by decide)).trans e4
        cases d with
        | false =>
          have := nodeB (.ptr 118 0) (kc 8 (kidZ p2)) w2 β2 hB0 e42
          rw [kc_den N.k2 ρ1 β2 8 ((M3.old 8 (by decide)).trans q8)] at this
          exact this
        | true =>
          have := nodeB (kc 6 (kidZ p1)) (.ptr 118 0) w2 β2 hB0 e42
          rw [kc_den N.k1 ρ1 β2 6 ((M3.old 6 (by decide)).trans q6)] at this
          exact this
      obtain ⟨F'', G1, G2, N2, hF2⟩ := nd_grown N hk hnil hfr M3.only hB hX
      have P2 := P.moved hws (M3.only.mono fun i _ hi => (show i ∈ F' by rw [show i = b from hi]; exact hbF)) N2.sub hF2 (fun _ => by omega)
      obtain ⟨pre', post', ak', G, c'', P3, hC3, y0, y1, hG⟩ := P2.kid (a := a) N2 (d := d) (x := β2 118) (by cases d <;> rfl) hd x0 x1
      refine ⟨k + 1, pre', post', none, ak', β2 118, G, c'', P3, hC.trans hC3, E2 u, t22 u, by omega, y0, y1, hO2, β3, M6, ?_, fun q => ?_⟩
      · rw [e34]
        cases d with
        | false => rw [show kidZ p1 = true from zt]; rfl
        | true => rw [show kidZ p2 = true from zt]; rfl
      · rw [k60] at q
        rcases hF2 _ (hG _ q) with q | q
        · exact h60 q
        · omega
    · rw [hz] at zf
      have hbel := same (ad_same o.isSome d (kidZ p1) (kidZ p2) zf) M3
      have hk2 : ∀ i ∈ F', w2.heap[i]? = w'.heap[i]? := fun i hi => hbel.block i (P.sub.lt i hi)
      have N2 := N.keep hk2
      have P2 := P.moved hws (Only.of_below hbel _) (P.sub.keep hk2) (fun i hi => .inl hi) (fun _ => by omega)
      obtain ⟨pre', post', ak', G, c'', P3, hC3, y0, y1, hG⟩ := P2.kid (a := a) N2 hptr hd x0 x1
      refine ⟨k + 1, pre', post', none, ak', _, G, c'', P3, hC.trans hC3, E2 u, t22 u, by omega, y0, y1, hO2, β3, M6, ?_, fun q => ?_⟩
      · rw [e34]
        cases d with
        | false => rw [show kidZ p1 = false from zf]; exact (M3.old 6 (by decide)).trans q6
        | true => rw [show kidZ p2 = false from zf]; exact (M3.old 8 (by decide)).trans q8
      · rw [k60] at q
        exact h60 (hG _ q)
  · intro hpc β2 a2 w2 M3
    have M3 : Md ρ1 (fun i => i = b) w' β1 62 (lfAt (adR1 Try.prog Try.f52 o.isSome d (kidZ p1) (kidZ p2)) 1) β2 a2 w2 := M3
    have q := hpc.1
    rw [t_not, t_lt] at q
    change ¬ ρ1.i 22 < ρ1.i 21 at q
    rw [j22, E1.i21] at q
    have hbel := same (ad_out o.isSome d (kidZ p1) (kidZ p2)) M3
    have hk2 : ∀ i ∈ F', w2.heap[i]? = w'.heap[i]? := fun i hi => hbel.block i (P.sub.lt i hi)
    have P2 := P.moved hws (Only.of_below hbel _) (P.sub.keep hk2) (fun i hi => .inl hi) (fun _ => by omega)
    have M4 : Md ρ1 (fun i => i = b) w' (gF g F) 4 (lfAt (adR1 Try.prog Try.f52 o.isSome d (kidZ p1) (kidZ p2)) 1) β2 a2 w2 := ⟨M3.act, M3.hp, M3.ne, M3.may, M3.cx, M3.only, fun l hl => (M3.old l (by omega)).trans (old l hl)⟩
    obtain ⟨x1', x2', x3'⟩ := ad_x
    have E2 : ∀ u, AdE a n via { ρ1.sub β2 [] with u := u } := fun u => ⟨E1.good, E1.i20, E1.i21, E1.i24, E1.v0, E1.v1⟩
    obtain ⟨u, β3, M5, e34⟩ := Sy.Md.enterL M4 (ad_x_m _ _ _ _) (fun u => by
      rw [x2']
      refine cxP ⟨?_, trivial⟩ trivial
      show _ ≤ ρ1.i 24 ∧ ρ1.i 24 ≤ _
      rw [E1.i24]; exact ⟨E1.v0, E1.v1⟩)
    have M6 : Md { ρ1.sub β2 [] with u := u } No w2 (gF g F) 4 (adX Try.prog Try.f52) β3 a2 w2 := ⟨M5.act, M5.hp, M5.ne, fun x hx => (by rw [x1'] at hx; cases hx), M5.cx, Only.refl _ _, M5.old⟩
    have hO2 : Only (fun i => i ∈ F) w w2 := Sy.Only.after hO M3.only fun i hi => by rw [hi]; exact P.inF b hbF
    exact ad_fin h l64 a0 a1 hc hany P2 hC (by omega) x0 x1 hO2 (E2 u) M6 (e34.trans ((M3.old 4 (by decide)).trans e4))
end
end Go.Proofs.Ytnjpoidpfcfbeaa
/- Routes: the contract of Table.Add. -/
namespace Go.Proofs.Ytnjpoidpfcfbeaa
open Go.RowKit Sy
set_option linter.unusedVariables false
set_option linter.unusedSimpArgs false

def adE0' (w : World) (g : Nat) (F : List Nat) (a n via : Int) (i50 : Nat) : Env := { mkEnv0 [] [] [] [] with i := fun j => if j = 20 then a else if j = 21 then n else if j = 24 then via else if j = 50 then (i50 : Int) else 0, f := rtF, o := fun _ => fixT w g F }
/-- What find will answer. -/
theorem fn_told {w : World} {g : Nat} {F : List Nat} {C : Rws} {a n : Int} (h : Sub w (some (C.length : Int)) 0 0 (ptv g) F C) (a0 : 0 ≤ a) (a1 : a ≤ 4294967295) : ∃ (z : Bool) (i50 : Nat), (chkN a n = 0 → (bif z then nilp else ptv i50) = fnV w g a n) ∧
    (chkN a n = 0 → (z = true ∧ C.any (isP a n) = false) ∨ (z = false ∧ ∃ pre post o F' c', Place w F g (C.length : Int) pre post w o n.toNat a i50 F' c' ∧ C = pre ++ (c' ++ post))) := by
  by_cases hc : chkN a n = 0
  · rcases fnV_R h a0 a1 hc with ⟨e, hany⟩ | ⟨pre, post, o, b, F', c', P, e, hC⟩
    · exact ⟨true, 0, fun _ => e.symm, fun _ => .inl ⟨rfl, hany⟩⟩
    · exact ⟨false, b, fun _ => e.symm, fun _ => .inr ⟨rfl, pre, post, o, F', c', P, hC⟩⟩
  · exact ⟨true, 0, fun q => absurd q hc, fun q => absurd q hc⟩
section
variable {w : World} {g : Nat} {F : List Nat} {C : Rws} {a n via : Int}
/-- The loop, from a frame at its door. -/
theorem ad_in (h : Sub w (some (C.length : Int)) 0 0 (ptv g) F C) (l64 : C.length < 64) (a0 : 0 ≤ a) (a1 : a ≤ 4294967295) (hc : chkN a n = 0) (hany : C.any (isP a n) = false) {s : Sy.St} (hm : (matchS 4 (adT Try.prog Try.f52) (adSB s)).map (fun l => (noU l, rnL l 4, rnL l 60)) = some ([.i 22 (.il 0)], 0, 60)) (hbx : find 60 s.hp = some (boxK false))
    {ρ : Env} (E : AdE a n via ρ) {S : Nat → Prop} {w0 : World} {β0 β : Bn} {n0 : Nat} {ac : Act} {w1 : World} (M : Md ρ S w0 β0 n0 s β ac w1) (hβ : ∀ l, l < 4 → β l = gF g F l) (h60 : β 60 ∉ F) (hbl : Below w.heap.size w w1) :
    (Sy.sub adQ (adRe Try.f52)).wp Try.prog (ctx Try.prog adQ (adRe Try.f52) (bodyPost Try.prog Try.f52 (RetP (AdPost w g F C a n via)))) ac w1 := by
  obtain ⟨n0', n1, nal⟩ := chk_0 hc
  have hb := (find_mem hbx).1
  have M1 : Md ρ No w1 (gF g F) 4 (adSB s) β ac w1 := ⟨M.act, fun x hx => by rw [List.mem_singleton.1 hx]; exact M.hp _ hb, fun x hx y hy hxy => by rw [List.mem_singleton.1 hx, List.mem_singleton.1 hy] at hxy; exact absurd rfl hxy, fun x hx hw => (by rw [List.mem_singleton.1 hx] at hw; cases hw), cxP (E.cx0 a0 a1 n0' n1) trivial, Only.refl _ _, hβ⟩
  have E2 : ∀ u, AdE a n via { ρ.sub β [.i 22 (.il 0)] with u := u } := fun u => ⟨E.good, E.i20, E.i21, E.i24, E.v0, E.v1⟩
  have t22 : ∀ u, ({ ρ.sub β [.i 22 (.il 0)] with u := u } : Env).i 22 = ((0 : Nat) : Int) := fun u => rfl
  obtain ⟨u, β3, M5, e34, e360⟩ := Sy.Md.enterLL M1 hm (fun u => (E2 u).cx (t22 u) a0 a1 n0' n1 n0')
  rw [ad_loop]
  have hk : ∀ i ∈ F, w1.heap[i]? = w.heap[i]? := fun i hi => hbl.block i (h.lt i hi)
  have P := (Place.start h).moved (Nat.le_refl _) (Only.of_below hbl _) (h.keep hk) (fun i hi => .inl hi) (fun q => by cases q)
  refine wp_loop_ix (ι := Env) (AdJ w g (C.length : Int) F C a n via) (fun j => (n - j.i 22).toNat) (fun j ac w' hJ => ad_round h l64 a0 a1 hc hany hJ) _ ⟨0, [], [], some (C.length : Int), 0, g, F, C, P, by rw [List.nil_append, List.append_nil], E2 u, t22 u, n0', a0, by rw [wid_0]; omega, Only.of_below hbl _, β3, M5, ?_, by rw [e360]; exact h60⟩
  rw [e34]
  exact hβ 0 (by decide)
set_option maxRecDepth 100000 in
set_option maxHeartbeats 1000000 in
/-- Add. -/
theorem add_calls (h : Sub w (some (C.length : Int)) 0 0 (ptv g) F C) (l64 : C.length ≤ 64) (a0 : 0 ≤ a) (a1 : a ≤ 4294967295) (n0 : -9223372036854775808 ≤ n) (n1 : n ≤ 9223372036854775807) (v0 : -9223372036854775808 ≤ via) (v1 : via ≤ 9223372036854775807) :
    Calls Try.prog 52 #[ptv g, pfV a n, .int .i64 via] w (RetP (AdPost w g F C a n via)) := by
  obtain ⟨z, i50, hv, hz⟩ := fn_told (n := n) h a0 a1
  have hgF := h.root_in
  have hE : AdE a n via (adE0' w g F a n via i50) := ⟨fun i => rfl, rfl, rfl, rfl, v0, v1⟩
  have hM0 : Md (adE0' w g F a n via i50) No w (gF g F) 4 opS (gF g F) ⟨#[], []⟩ w := by
    refine Sy.Md.init ⟨?_, trivial⟩ ⟨trivial, trivial⟩ ⟨fun q => (by cases q), trivial⟩ (cxP ⟨⟨a0, a1⟩, ⟨n0, n1⟩, ⟨v0, v1⟩, trivial⟩ trivial) rfl
    exact ⟨rfl, fun i => bitsOf_test i _, hgF, fun i hi => ⟨h.lt i hi, rfl⟩⟩
  refine calls_pre (B := ⟨adE0' w g F a n via i50, No, w, gF g F, 4⟩) (sp := [ckSp, fiSp z]) (p := opP) (xs := adA) (s := opS) (r := adR0 Try.prog Try.f52 z) hE.good (fun q hq => by
    simp only [List.mem_cons, List.not_mem_nil, or_false] at hq
    rcases hq with rfl | rfl
    · exact ckSp_ok rfl
    · exact fiSp_ok rfl rfl h (by omega) (by omega) a0 a1 fun q => hv q) rfl Try.func52 rfl rfl (ad_run0 z) hM0 ⟨?_, ?_, trivial⟩ rfl
  · intro hpc β ac w1 M
    have q := hpc.1
    unfold adN0 at q
    rw [t_not, t_eq] at q
    change ¬ chkN a n = 0 at q
    refine ret_post (B := ⟨adE0' w g F a n via i50, No, w, gF g F, 4⟩) M (retsB_ok (ad_ret0 z) rfl) ⟨?_, ?_⟩
    · show Value.int .i64 (chkN a n) = _
      unfold adC
      rw [if_pos q]
    · have : adC C a n ≠ 0 := by unfold adC; rw [if_pos q]; exact q
      unfold adR
      rw [if_neg this]
      exact tab_same h (below_no M.only)
  · intro hpc β ac w1 M
    have q := hpc.1
    unfold adE0 at q
    rw [t_eq] at q
    change chkN a n = 0 at q
    have hc : chkN a n = 0 := q
    obtain ⟨k0, k1, _⟩ := chk_0 hc
    have M : Md (adE0' w g F a n via i50) No w (gF g F) 4 (lfAt (adR0 Try.prog Try.f52 z) 1) β ac w1 := M
    have hbl := below_no M.only
    have hbx := (find_mem (ad_box z)).1
    have h60 : β 60 ∉ F := fun q => by
      have h1 := (M.may0 _ hbx rfl (.inl rfl)).resolve_left fun q => q
      have h2 := h.lt _ q
      change w.heap.size ≤ β 60 at h1
      omega
    have M1 : Md (adE0' w g F a n via i50) No w1 (gF g F) 4 (adSt0 Try.prog Try.f52 z) β ac w1 := ⟨M.act, fun x hx => (by rw [List.mem_singleton.1 hx]; have q := M.hp _ hbx; exact q), fun x hx y hy hxy => by rw [List.mem_singleton.1 hx, List.mem_singleton.1 hy] at hxy; exact absurd rfl hxy, fun x hx hw => (by rw [List.mem_singleton.1 hx] at hw; cases hw), cxP (hE.cx0 a0 a1 k0 k1) trivial, Only.refl _ _, M.old⟩
    have E2 : ∀ u, AdE a n via { (adE0' w g F a n via i50).sub β [] with u := u } := fun u => ⟨hE.good, rfl, rfl, rfl, v0, v1⟩
    have t50 : ∀ u, ({ (adE0' w g F a n via i50).sub β [] with u := u } : Env).i 50 = (i50 : Int) := fun u => rfl
    obtain ⟨mh1, mh2⟩ := ad_mhp z
    obtain ⟨u, β1, M2, _, e60⟩ := Sy.Md.enterLL M1 (ad_m0 z) (fun u => by rw [mh2]; exact cxP ((E2 u).cx0 a0 a1 k0 k1) trivial)
    have E3 := E2 u
    have t50 := t50 u
    generalize ({ (adE0' w g F a n via i50).sub β [] with u := u } : Env) = ρ at M2 E3 t50
    show (Sy.sub opP (bodyOf Try.f52)).wp Try.prog (ctx Try.prog [1, 1, 1] (bodyOf Try.f52) _) ac w1
    rw [ctx3]
    show (adRe Try.f52).wp Try.prog (bodyPost Try.prog Try.f52 (RetP (AdPost w g F C a n via))) ac w1
    have hk : ∀ i ∈ F, w1.heap[i]? = w.heap[i]? := fun i hi => hbl.block i (h.lt i hi)
    have h1 := h.keep hk
    have hglt := h1.lt g hgF
    obtain ⟨r1, r2, G1, G2, d1, d2, s0, v0', R⟩ := h1.opn rfl
    have e0 : β1 0 = g := M2.old 0 (by decide)
    have h601 : β1 60 ∉ F := by rw [e60]; exact h60
    have full : ∀ {ρ' : Env}, NdE 36 s0 v0' (some (C.length : Int)) ρ' → ((den ρ' adFu).b = true ↔ C.length = 64) := fun {ρ'} En => by
      unfold adFu
      rw [t_eq]
      show ρ'.i 38 = 64 ↔ _
      rw [show ρ'.i 38 = (C.length : Int) from En.m]
      omega
    have adc9 : C.any (isP a n) = false → C.length = 64 → adC C a n = 9 := fun h1 h2 => by
      unfold adC
      rw [if_neg (by omega), h1]
      simp only [Bool.false_eq_true, if_false]
      rw [if_pos (by omega)]
    have ret : ∀ {w2 : World} (x : Int), adC C a n = x → x ≠ 0 → Below w1.heap.size w1 w2 → AdPost w g F C a n via (.int .i64 x) w2 := fun x hx h0 hb2 => by
      refine ⟨by rw [hx], ?_⟩
      unfold adR
      rw [if_neg (by rw [hx]; exact h0)]
      exact tab_same h ⟨hb2.os.trans hbl.os, hb2.tape.trans hbl.tape, hb2.output.trans hbl.output, Nat.le_trans hbl.size hb2.size, fun i hi => (hb2.block i (Nat.lt_of_lt_of_le hi hbl.size)).trans (hbl.block i hi)⟩
    have bel : ∀ {w2 : World}, Below w1.heap.size w1 w2 → Below w.heap.size w w2 := fun hb2 => ⟨hb2.os.trans hbl.os, hb2.tape.trans hbl.tape, hb2.output.trans hbl.output, Nat.le_trans hbl.size hb2.size, fun i hi => (hb2.block i (Nat.lt_of_lt_of_le hi hbl.size)).trans (hbl.block i hi)⟩
    have rootne : ∀ (st : Sy.St) (β' : Bn), st.hp = [boxK false] → β' 60 ∉ F → ∀ x ∈ st.hp, x.real β' → ¬ fp β' x g := fun st β' hst hb6 x hx _ hfx => by
      rw [hst] at hx
      rw [List.mem_singleton.1 hx] at hfx
      exact hb6 (fp_one rfl hfx ▸ hgF)
    rcases hz hc with ⟨rfl, hany⟩ | ⟨rfl, pre, post, o, F', c', P, hC⟩
    · -- there is no such place
      have q := ad_mT
      simp only [Bool.and_eq_true] at q
      obtain ⟨lx, ⟨g6, g7⟩, g8, g9⟩ := q
      obtain ⟨β2, M3, q6, q8, ql⟩ := nd_inG 0 12 36 M2 R e0 (fun m' e => by injection e with e; omega) (by decide) (.inl (by decide)) lx (by
        show ((St.free (adM Try.prog Try.f52 true) 12 && St.free (adM Try.prog Try.f52 true) 13) && (St.free (adM Try.prog Try.f52 true) 14 && St.free (adM Try.prog Try.f52 true) 15)) = true
        rw [g6, g7, g8, g9]; rfl) false (rootne _ _ mh1 h601) (fun q => by cases q)
      have En := NdE.hi ρ 36 s0 v0' (some (C.length : Int))
      have E4 : AdE a n via (ρ.hi 36 (ndL s0 v0' (some (C.length : Int)))) := ⟨E3.good, E3.i20, E3.i21, E3.i24, v0, v1⟩
      generalize ρ.hi 36 (ndL s0 v0' (some (C.length : Int))) = ρ1 at M3 En E4
      have M4 : Md ρ1 No w1 β2 62 (adB0 Try.prog Try.f52 (kidZ r1) (kidZ r2)) β2 ac w1 := ⟨M3.act, M3.hp, M3.ne, M3.may, M3.cx, M3.only, fun _ _ => rfl⟩
      have M4' : Md ρ1 No w1 β2 50 (adB0 Try.prog Try.f52 (kidZ r1) (kidZ r2)) β2 ac w1 := ⟨M3.act, M3.hp, M3.ne, M3.may, M3.cx, M3.only, fun _ _ => rfl⟩
      refine part_pre (B := ⟨ρ1, No, w1, β2, 62⟩) (sp := []) (lim := 10) (fuel := 400) E4.good (fun q hq => by cases hq) rfl (p := adQ) (r := adRB Try.prog Try.f52 (adB0 Try.prog Try.f52 (kidZ r1) (kidZ r2))) rfl (ad_runB0 _ _) ⟨?_, ?_, trivial⟩ M4
      · intro hpc β3 a3 w3 M5
        have hf := (full En).1 hpc.1
        exact ret_post (B := ⟨ρ1, No, w1, β2, 62⟩) M5 (retsB_ok (ad_retB0 _ _) rfl) (ret 9 (adc9 hany hf) (by decide) (below_no M5.only))
      · intro hpc β3 a3 w3 M5
        have hf := hpc.1
        rw [t_not, full En] at hf
        have M5 : Md ρ1 No w1 β2 62 (lfAt (adRB Try.prog Try.f52 (adB0 Try.prog Try.f52 (kidZ r1) (kidZ r2))) 1) β3 a3 w3 := M5
        refine ad_in h (by omega) a0 a1 hc hany (ad_in0 _ _) (ad_bx0 _ _) E4 M5 (fun l hl => (M5.old l (by omega)).trans ((ql l (by omega)).trans (M2.old l hl))) ?_ (bel (below_no M5.only))
        rw [(M5.old 60 (by decide)), ql 60 (.inr (by decide))]
        exact h601
    · -- there is
      have P1 := P.moved (Nat.le_refl _) (Only.of_below hbl _) (P.sub.keep fun i hi => hbl.block i (P.sub.lt i hi)) (fun i hi => .inl hi) (fun _ => h.lt g hgF)
      obtain ⟨p1, p2, F1, F2, c1, c2, s, v, N⟩ := P1.sub.opn rfl
      obtain ⟨hs, _, _⟩ := N.any P1.lo P1.hi P1.a0 P1.al P1.a1
      rw [← hC, show (n.toNat : Int) = n by omega] at hs
      have adc8 : s = true → adC C a n = 8 := fun e => by
        unfold adC
        rw [if_neg (by omega), hs, e]
        rfl
      have q := ad_m4
      simp only [Bool.and_eq_true] at q
      have M2a := Sy.Md.letter M2 4 i50 0 (by decide) q.1 q.2
      obtain ⟨β2, hβ2⟩ : ∃ β2, upd (upd β1 4 i50) (4 + 1) 0 = β2 := ⟨_, rfl⟩
      rw [hβ2] at M2a
      have b4 : β2 4 = i50 := by rw [← hβ2, upd_old (by omega), upd_new]
      have bl : ∀ l, l < 4 ∨ 6 ≤ l → β2 l = β1 l := fun l hl => by rw [← hβ2, upd_old (by omega), upd_old (by omega)]
      have h602 : β2 60 ∉ F := by rw [bl 60 (.inr (by decide))]; exact h601
      have e02 : β2 0 = g := (bl 0 (.inl (by decide))).trans e0
      have rt := P1.root
      rcases rt with ⟨ho, hbg, hk0, ha0, _, _⟩ | ⟨ho, hgn⟩
      · -- the root
        subst ho
        have M2b : Md ρ No w1 (gF g F) 4 (adM1 Try.prog Try.f52 0) β2 ac w1 := Md.retell M2a 8 (.one (.c (.ptr 0 0))) (by
          rw [ad_m8]
          show Value.pointer (some ⟨β2 0, 0, none⟩) = .pointer (some ⟨(ρ.i 50).toNat, 0, none⟩)
          rw [t50, e02, Int.toNat_natCast, hbg])
        have q := ad_m10
        simp only [Bool.and_eq_true] at q
        obtain ⟨lx, ⟨g6, g7⟩, g8, g9⟩ := q
        obtain ⟨β3, M3, q6, q8, ql⟩ := nd_inG 0 12 36 M2b R e02 (fun m' e => by injection e with e; omega) (by decide) (.inl (by decide)) lx (by
          show ((St.free (adM1 Try.prog Try.f52 0) 12 && St.free (adM1 Try.prog Try.f52 0) 13) && (St.free (adM1 Try.prog Try.f52 0) 14 && St.free (adM1 Try.prog Try.f52 0) 15)) = true
          rw [g6, g7, g8, g9]; rfl) false (rootne (adM1 Try.prog Try.f52 0) _ mh1 h602) (fun q => by cases q)
        have En := NdE.hi ρ 36 s0 v0' (some (C.length : Int))
        have E4 : AdE a n via (ρ.hi 36 (ndL s0 v0' (some (C.length : Int)))) := ⟨E3.good, E3.i20, E3.i21, E3.i24, v0, v1⟩
        generalize ρ.hi 36 (ndL s0 v0' (some (C.length : Int))) = ρ1 at M3 En E4
        have hss : s0 = s := by
          have e1 := R.blk
          have e2 := N.blk
          rw [hbg] at e2
          have := e1.symm.trans e2
          injection this with this
          injection this with this
          have := Array.toList_inj.2 this
          simp [ndC] at this
          exact this.2.2.1
        have M4 : Md ρ1 No w1 β3 62 (adB2 Try.prog Try.f52 (kidZ r1) (kidZ r2)) β3 ac w1 := ⟨M3.act, M3.hp, M3.ne, M3.may, M3.cx, M3.only, fun _ _ => rfl⟩
        refine part_pre (B := ⟨ρ1, No, w1, β3, 62⟩) (sp := []) (lim := 10) (fuel := 400) E4.good (fun q hq => by cases hq) rfl (p := adQ) (r := adRB Try.prog Try.f52 (adB2 Try.prog Try.f52 (kidZ r1) (kidZ r2))) rfl (ad_runB2 _ _) ⟨?_, ?_, ?_, trivial⟩ M4
        · intro hpc β4 a3 w3 M5
          have hf : ρ1.b 36 = true := hpc.1
          rw [show ρ1.b 36 = s0 from En.st] at hf
          have q := ad_retB2 (kidZ r1) (kidZ r2)
          simp only [Bool.and_eq_true] at q
          exact ret_post (B := ⟨ρ1, No, w1, β3, 62⟩) M5 (retsB_ok q.1 rfl) (ret 8 (adc8 (hss ▸ hf)) (by decide) (below_no M5.only))
        · intro hpc β4 a3 w3 M5
          have hf := (full En).1 hpc.1
          have hg := hpc.2.1
          rw [t_not] at hg
          have hany : C.any (isP a n) = false := by
            rw [hs, ← hss]
            have : ¬ ρ1.b 36 = true := hg
            rw [show ρ1.b 36 = s0 from En.st] at this
            simpa using this
          have q := ad_retB2 (kidZ r1) (kidZ r2)
          simp only [Bool.and_eq_true] at q
          exact ret_post (B := ⟨ρ1, No, w1, β3, 62⟩) M5 (retsB_ok q.2 rfl) (ret 9 (adc9 hany hf) (by decide) (below_no M5.only))
        · intro hpc β4 a3 w3 M5
          have hf := hpc.1
          rw [t_not, full En] at hf
          have hg := hpc.2.1
          rw [t_not] at hg
          have hany : C.any (isP a n) = false := by
            rw [hs, ← hss]
            have : ¬ ρ1.b 36 = true := hg
            rw [show ρ1.b 36 = s0 from En.st] at this
            simpa using this
          have M5 : Md ρ1 No w1 β3 62 (lfAt (adRB Try.prog Try.f52 (adB2 Try.prog Try.f52 (kidZ r1) (kidZ r2))) 2) β4 a3 w3 := M5
          refine ad_in h (by omega) a0 a1 hc hany (ad_in2 _ _) (ad_bx2 _ _) E4 M5 (fun l hl => (M5.old l (by omega)).trans ((ql l (by omega)).trans ((bl l (by omega)).trans (M2.old l hl)))) ?_ (bel (below_no M5.only))
          rw [(M5.old 60 (by decide)), ql 60 (.inr (by decide))]
          exact h602
      · -- a node
        subst ho
        have hbF : i50 ∈ F' := by rw [N.hF]; exact List.mem_cons_self ..
        have hbg : i50 ≠ g := fun e => hgn (e ▸ hbF)
        have hbl' := P.sub.lt i50 hbF
        have M2b : Md ρ No w1 (gF g F) 4 (adM1 Try.prog Try.f52 4) β2 ac w1 := Md.retell M2a 8 (.one (.c (.ptr 4 0))) (by
          rw [ad_m8]
          show Value.pointer (some ⟨β2 4, 0, none⟩) = .pointer (some ⟨(ρ.i 50).toNat, 0, none⟩)
          rw [t50, b4, Int.toNat_natCast])
        have hbF0 : i50 ∈ F := (P.inF i50 hbF).elim (fun q => q) fun q => absurd hbl' (by omega)
        have q := ad_m14
        simp only [Bool.and_eq_true] at q
        obtain ⟨lx, ⟨g6, g7⟩, g8, g9⟩ := q
        obtain ⟨β3, M3, q6, q8, ql⟩ := nd_inG 4 6 32 M2b N b4 (fun m' e => by cases e) (by decide) (.inl (by decide)) lx (by
          show ((St.free (adM1 Try.prog Try.f52 4) 6 && St.free (adM1 Try.prog Try.f52 4) 7) && (St.free (adM1 Try.prog Try.f52 4) 8 && St.free (adM1 Try.prog Try.f52 4) 9)) = true
          rw [g6, g7, g8, g9]; rfl) false (fun x hx _ hfx => by
            have hx : x ∈ (adM Try.prog Try.f52 false).hp := hx
            rw [mh1] at hx
            rw [List.mem_singleton.1 hx] at hfx
            exact h602 (fp_one rfl hfx ▸ hbF0)) (fun q => by cases q)
        have Ena := NdE.hi ρ 32 s v none
        have E4 : AdE a n via (ρ.hi 32 (ndL s v none)) := ⟨E3.good, E3.i20, E3.i21, E3.i24, v0, v1⟩
        generalize ρ.hi 32 (ndL s v none) = ρ1 at M3 Ena E4
        have e03 : β3 0 = g := (ql 0 (.inl (by decide))).trans e02
        have b43 : β3 4 = i50 := (ql 4 (.inl (by decide))).trans b4
        have h603 : β3 60 ∉ F := by rw [ql 60 (.inr (by decide))]; exact h602
        have q := ad_m14' (kidZ p1) (kidZ p2)
        simp only [Bool.and_eq_true] at q
        obtain ⟨lx, ⟨g6, g7⟩, g8, g9⟩ := q
        obtain ⟨β5, M3', t6, t8, tl⟩ := nd_inG 0 12 36 M3 R e03 (fun m' e => by injection e with e; omega) (by decide) (.inl (by decide)) lx (by
          show ((St.free (ndSG (adM1 Try.prog Try.f52 4) 4 6 32 false (kidZ p1) (kidZ p2) false) 12 && St.free (ndSG (adM1 Try.prog Try.f52 4) 4 6 32 false (kidZ p1) (kidZ p2) false) 13) && (St.free (ndSG (adM1 Try.prog Try.f52 4) 4 6 32 false (kidZ p1) (kidZ p2) false) 14 && St.free (ndSG (adM1 Try.prog Try.f52 4) 4 6 32 false (kidZ p1) (kidZ p2) false) 15)) = true
          rw [g6, g7, g8, g9]; rfl) false (fun x hx hr hfx => by
            have hx : x ∈ ndG 4 6 32 false (kidZ p1) (kidZ p2) false :: (adM Try.prog Try.f52 false).hp := hx
            rcases List.mem_cons.1 hx with rfl | hx
            · exact hbg ((fp_one rfl hfx).trans b43).symm
            · exact rootne (adM Try.prog Try.f52 false) β3 mh1 h603 x hx hr hfx) (fun q => by cases q)
        have En := NdE.hi ρ1 36 s0 v0' (some (C.length : Int))
        have b32 : (ρ1.hi 36 (ndL s0 v0' (some (C.length : Int)))).b 32 = s := Ena.st
        have E5 : AdE a n via (ρ1.hi 36 (ndL s0 v0' (some (C.length : Int)))) := ⟨E4.good, E4.i20, E4.i21, E4.i24, v0, v1⟩
        generalize ρ1.hi 36 (ndL s0 v0' (some (C.length : Int))) = ρ2 at M3' En E5 b32
        have M4 : Md ρ2 No w1 β5 62 (adB1 Try.prog Try.f52 (kidZ p1) (kidZ p2) (kidZ r1) (kidZ r2)) β5 ac w1 := ⟨M3'.act, M3'.hp, M3'.ne, M3'.may, M3'.cx, M3'.only, fun _ _ => rfl⟩
        refine part_pre (B := ⟨ρ2, No, w1, β5, 62⟩) (sp := []) (lim := 10) (fuel := 400) E5.good (fun q hq => by cases hq) rfl (p := adQ) (r := adRB Try.prog Try.f52 (adB1 Try.prog Try.f52 (kidZ p1) (kidZ p2) (kidZ r1) (kidZ r2))) rfl (ad_runB1 _ _ _ _) ⟨?_, ?_, ?_, trivial⟩ M4
        · intro hpc β4 a3 w3 M5
          have hf : ρ2.b 32 = true := hpc.1
          rw [b32] at hf
          have q := ad_retB1 (kidZ p1) (kidZ p2) (kidZ r1) (kidZ r2)
          simp only [Bool.and_eq_true] at q
          exact ret_post (B := ⟨ρ2, No, w1, β5, 62⟩) M5 (retsB_ok q.1 rfl) (ret 8 (adc8 hf) (by decide) (below_no M5.only))
        · intro hpc β4 a3 w3 M5
          have hf := (full En).1 hpc.1
          have hg := hpc.2.1
          rw [t_not] at hg
          have hany : C.any (isP a n) = false := by
            rw [hs]
            have : ¬ ρ2.b 32 = true := hg
            rw [b32] at this
            simpa using this
          have q := ad_retB1 (kidZ p1) (kidZ p2) (kidZ r1) (kidZ r2)
          simp only [Bool.and_eq_true] at q
          exact ret_post (B := ⟨ρ2, No, w1, β5, 62⟩) M5 (retsB_ok q.2 rfl) (ret 9 (adc9 hany hf) (by decide) (below_no M5.only))
        · intro hpc β4 a3 w3 M5
          have hf := hpc.1
          rw [t_not, full En] at hf
          have hg := hpc.2.1
          rw [t_not] at hg
          have hany : C.any (isP a n) = false := by
            rw [hs]
            have : ¬ ρ2.b 32 = true := hg
            rw [b32] at this
            simpa using this
          have M5 : Md ρ2 No w1 β5 62 (lfAt (adRB Try.prog Try.f52 (adB1 Try.prog Try.f52 (kidZ p1) (kidZ p2) (kidZ r1) (kidZ r2))) 2) β4 a3 w3 := M5
          refine ad_in h (by omega) a0 a1 hc hany (ad_in1 _ _ _ _) (ad_bx1 _ _ _ _) E5 M5 (fun l hl => (M5.old l (by omega)).trans ((tl l (by omega)).trans ((ql l (by omega)).trans ((bl l (by omega)).trans (M2.old l hl))))) ?_ (bel (below_no M5.only))
          rw [(M5.old 60 (by decide)), tl 60 (.inr (by decide))]
          exact h603
end
end Go.Proofs.Ytnjpoidpfcfbeaa
