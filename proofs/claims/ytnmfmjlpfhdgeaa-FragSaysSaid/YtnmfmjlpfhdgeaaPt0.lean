/- A loop that looks through a table for a row: a law once for all. -/
import Derived.Test.YtnmfmjlpfhdgeaaSyZ
namespace Go.Proofs.Ytnmfmjlpfhdgeaa
namespace Sy
open Go Go.RowKit
set_option linter.unusedVariables false
set_option linter.unusedSimpArgs false

/-- All these leaves return that value. -/
def retsB (P : Program) (fn : Func) (r : Rs) (v : SV) (ks : List Nat) : Bool := ks.all fun k => match retS P (lfAt r k) fn.results.toList with
  | some x => sameS x v
  | none => false
theorem retsB_ok {P : Program} {fn : Func} {r : Rs} {v : SV} {ks : List Nat} (h : retsB P fn r v ks = true) {k : Nat} (hk : ks.contains k = true) : retS P (lfAt r k) fn.results.toList = some v := by
  have := List.all_eq_true.1 h k (List.contains_iff_mem.1 hk)
  split at this
  · rename_i x hx
    rw [hx, sameS_eq this]
  · cases this
def finB (P : Program) (fn : Func) (n0 : Nat) (v : SV) (r : Rs) : Bool := match smR P fn n0 r with
  | some [.ret x _ _] => sameS x v
  | _ => false
theorem finB_ok {P : Program} {fn : Func} {n0 : Nat} {v : SV} {r : Rs} (h : finB P fn n0 v r = true) : ∃ hp pc, smR P fn n0 r = some [.ret v hp pc] := by
  unfold finB at h
  split at h
  · rename_i x hp pc hx
    exact ⟨hp, pc, by rw [hx, sameS_eq h]⟩
  · cases h
/-- The same but for the round's number (and what slots hold that mean nothing). -/
structure But0 (ρ0 ρ : Env) : Prop where
  i : ∀ n, n ≠ 0 → ρ.i n = ρ0.i n
  b : ρ.b = ρ0.b
  s : ρ.s = ρ0.s
  c : ρ.c = ρ0.c
  f : ρ.f = ρ0.f
  v : ρ.v = ρ0.v
theorem But0.next {ρ0 ρ : Env} (h : But0 ρ0 ρ) (β : Bn) (t : Tm) (u : Nat → Value) : But0 ρ0 { ρ.sub β [.i 0 t] with u := u } := by
  refine ⟨fun n hn => ?_, h.b, h.s, h.c, h.f, h.v⟩
  cases n with
  | zero => exact absurd rfl hn
  | succ n => exact h.i (n + 1) hn
def scR0 (P : Program) (sp : List Spec) (fn : Func) (xs : List SV) (s : St) (p : List Nat) : Rs := run P sp 10 400 0 (.code (pre p (bodyOf fn))) (enterS fn xs s)
def scCx (bs : List Bd) : Cx := ⟨⟨.iv 0, 0, 4000⟩ :: bs, [.le (.iv 0) (tlen (.cv 0))]⟩
def scT (P : Program) (sp : List Spec) (fn : Func) (xs : List SV) (s : St) (p : List Nat) (slot : Nat) : St := tplS (lfAt (scR0 P sp fn xs s p) 0) (lpBody (Sy.sub p (bodyOf fn))) [(slot, .one (.c (.int .i64 (.iv 0))))] [] (scCx s.cx.bs) 60
def scR1 (P : Program) (sp : List Spec) (fn : Func) (xs : List SV) (s : St) (p : List Nat) (slot : Nat) : Rs := run P sp 10 400 0 (.code (lpBody (Sy.sub p (bodyOf fn)))) (scT P sp fn xs s p slot)
structure ScanCode (P : Program) (sp : List Spec) (f : FuncId) (fn : Func) (xs : List SV) (s : St) (p : List Nat) (slot : Nat) (ys : List Sh) (vr vn : SV) (ks : List Nat) (ke : Nat) : Prop where
  hf : P.funcs[f]? = some fn
  body : fn.body.isSome = true
  tm : s.tm = []
  run0 : shR 0 none (scR0 P sp fn xs s p) = some [.out 0 .normal []]
  mtch : (matchS 0 (scT P sp fn xs s p slot) (lfAt (scR0 P sp fn xs s p) 0)).map noU = some [.i 0 (.il 0)]
  loop : Code.loop (lpBody (Sy.sub p (bodyOf fn))) = Sy.sub p (bodyOf fn)
  run1 : shR 0 (some (scT P sp fn xs s p slot)) (scR1 P sp fn xs s p slot) = some ys
  rets : retsB P fn (scR1 P sp fn xs s p slot) vr ks = true
  fin : finB P fn 0 vn (run P sp 10 400 0 (.code (aft (.exit 0) p (bodyOf fn))) (lfAt (scR1 P sp fn xs s p slot) ke)) = true
/-- What is to be shown of a leaf. -/
def scGoal (ρ0 : Env) (n : Nat) (test : Nat → Bool) (ks : List Nat) (ke : Nat) : Sh → Prop
  | .must t pc => ∀ ρ, But0 ρ0 ρ → 0 ≤ ρ.i 0 → pcs ρ pc → (den ρ t).b = true
  | .back l pc => l = [.i 0 (.add (.iv 0) (.il 1))] ∧ ∀ ρ, But0 ρ0 ρ → 0 ≤ ρ.i 0 → pcs ρ pc → ρ.i 0 < (n : Int) ∧ (ρ.i 0 < (n : Int) → test (ρ.i 0).toNat = false)
  | .out k .ret pc => ks.contains k = true ∧ ∀ ρ, But0 ρ0 ρ → 0 ≤ ρ.i 0 → pcs ρ pc → ρ.i 0 < (n : Int) ∧ (ρ.i 0 < (n : Int) → test (ρ.i 0).toNat = true)
  | .out k (.exit 0) pc => k = ke ∧ ∀ ρ, But0 ρ0 ρ → 0 ≤ ρ.i 0 → pcs ρ pc → ¬ ρ.i 0 < (n : Int)
  | .out _ _ _ => False
structure ScI (ρ0 : Env) (n : Nat) (test : Nat → Bool) (ρ : Env) : Prop where
  but : But0 ρ0 ρ
  i0 : 0 ≤ ρ.i 0
  i1 : ρ.i 0 ≤ (n : Int)
  no : ∀ j, j < (ρ.i 0).toNat → test j = false
set_option maxRecDepth 100000 in
theorem scan_calls {P : Program} {sp : List Spec} {f : FuncId} {fn : Func} {xs : List SV} {s : St} {p : List Nat} {slot : Nat} {ys : List Sh} {vr vn : SV} {ks : List Nat} {ke : Nat} (E : ScanCode P sp f fn xs s p slot ys vr vn ks ke)
    {ρ0 : Env} {w : World} {β0 : Bn} (hg : ρ0.good) (hsp : ∀ ρ, But0 ρ0 ρ → ∀ q ∈ sp, q.Ok P ρ) (hbs : ∀ ρ, But0 ρ0 ρ → Bds ρ s.cx.bs) (hM : Md ρ0 (fun _ => False) w β0 0 s β0 ⟨#[], []⟩ w) {n : Nat} (hn : n ≤ 4000) (hc : (ρ0.c 0).length = n) {test : Nat → Bool} (hd : AllL (scGoal ρ0 n test ks ke) ys)
    {args : Array Value} (hargs : args = (xs.map (SV.den ρ0 β0)).toArray) {R : Value → World → Prop}
    (hr : ∀ ρ β w', But0 ρ0 ρ → Below w.heap.size w w' → 0 ≤ ρ.i 0 → (ρ.i 0).toNat < n → (∀ j, j < (ρ.i 0).toNat → test j = false) → test (ρ.i 0).toNat = true → R (vr.den ρ β) w')
    (hn' : ∀ ρ β w', But0 ρ0 ρ → Below w.heap.size w w' → (∀ j, j < n → test j = false) → R (vn.den ρ β) w') : Calls P f args w (RetP R) := by
  have hb0 : But0 ρ0 ρ0 := ⟨fun _ _ => rfl, rfl, rfl, rfl, rfl, rfl⟩
  refine calls_pre (B := ⟨ρ0, fun _ => False, w, β0, 0⟩) (sp := sp) (p := p) (xs := xs) (s := s) (r := scR0 P sp fn xs s p) hg (hsp ρ0 hb0) rfl E.hf E.body rfl E.run0 (by
    have := E.tm
    exact ⟨hM.act.trans (by rw [this]), hM.hp, hM.ne, hM.may, hM.cx, hM.only, hM.old⟩) ?_ hargs
  refine ⟨?_, trivial⟩
  intro _ β a w1 hM1
  show (Sy.sub p (bodyOf fn)).wp P (ctx P p (bodyOf fn) _) a w1
  rw [← E.loop]
  have hcx : ∀ ρ, ScI ρ0 n test ρ → (scT P sp fn xs s p slot).cx.ok ρ := fun ρ h => by
    have h0 := h.i0
    have h1 := h.i1
    have hcl : (ρ.c 0).length = n := by rw [h.but.c, hc]
    refine ⟨fun x hx => ?_, fun t ht => ?_⟩
    · change x ∈ _ :: s.cx.bs at hx
      rcases List.mem_cons.1 hx with rfl | hx
      · show (0 : Int) ≤ ρ.i 0 ∧ ρ.i 0 ≤ 4000
        omega
      · exact hbs ρ h.but x hx
    · change t ∈ [_] at ht
      rw [List.mem_singleton.1 ht, t_le]
      show ρ.i 0 ≤ (((ρ.c 0).length : Nat) : Int)
      omega
  have hI1 : ∀ u, ScI ρ0 n test { ρ0.sub β [.i 0 (.il 0)] with u := u } := fun u => ⟨hb0.next β _ u, Int.le_refl 0, show (0 : Int) ≤ _ by omega, fun j hj => absurd hj (by show ¬ j < (0 : Int).toNat; omega)⟩
  obtain ⟨u, β', hM2⟩ := Sy.Md.enter hM1 E.mtch fun u => hcx _ (hI1 u)
  have hgI : ∀ ρ, ScI ρ0 n test ρ → ρ.good := fun ρ hI i => by rw [hI.but.v]; exact hg i
  refine loop_wp (w0 := w) (r := scR1 P sp fn xs s p slot) rfl E.run1 (ScI ρ0 n test) (fun ρ => n - (ρ.i 0).toNat) hgI (fun ρ hI => hsp ρ hI.but) hcx ?_ (hI1 u) hM2
  intro ρ hI
  have i0 := hI.i0
  have i1 := hI.i1
  refine AllL_imp ?_ hd
  intro y _ hy
  cases y with
  | must t pc => exact fun hpc => hy ρ hI.but i0 hpc
  | back l pc =>
    obtain ⟨rfl, hy⟩ := hy
    intro hpc β u
    obtain ⟨hlt, ht⟩ := hy ρ hI.but i0 hpc
    have ht := ht hlt
    refine ⟨⟨hI.but.next β _ u, ?_, ?_, ?_⟩, ?_⟩
    · show 0 ≤ ρ.i 0 + 1
      omega
    · show ρ.i 0 + 1 ≤ _
      omega
    · show ∀ j, j < (ρ.i 0 + 1).toNat → _
      intro j hj
      by_cases hji : j = (ρ.i 0).toNat
      · rw [hji]; exact ht
      · exact hI.no j (by omega)
    · show n - (ρ.i 0 + 1).toNat < n - (ρ.i 0).toNat
      omega
  | out k e pc =>
    cases e with
    | ret =>
      obtain ⟨hk, hy⟩ := hy
      intro hpc β a w' hM
      obtain ⟨hlt, ht⟩ := hy ρ hI.but i0 hpc
      exact ctx_ret (P := P) p (bodyOf fn) _ (ret_post (B := ⟨ρ, fun _ => False, w, β0, 0⟩) hM (retsB_ok E.rets hk) (hr ρ β w' hI.but (Sy.Only.below_all hM.only) i0 (by omega) hI.no (ht hlt)))
    | exit m =>
      cases m with
      | succ m => exact hy.elim
      | zero =>
        obtain ⟨rfl, hy⟩ := hy
        intro hpc β a w' hM
        have hge := hy ρ hI.but i0 hpc
        obtain ⟨hpf, pcf, hfin⟩ := finB_ok E.fin
        refine aft_fin (B := ⟨ρ, fun _ => False, w, β0, 0⟩) (hgI ρ hI) (hsp ρ hI.but) rfl (.exit 0) hfin ?_ hM
        refine ⟨?_, trivial⟩
        intro hpc2 β2 w2 hH
        exact hn' ρ β2 w2 hI.but (Sy.Only.below_all hH.only) fun j hj => hI.no j (by omega)
    | _ => exact hy.elim
end Sy
end Go.Proofs.Ytnmfmjlpfhdgeaa
