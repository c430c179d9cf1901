/- The run with letters is sound. -/
import Derived.Test.YtnmfmjlpfhdgeaaSyJ
import Derived.LoopN
namespace Go.Proofs.Ytnmfmjlpfhdgeaa
namespace Sy
open Go Go.RowKit
set_option linter.unusedVariables false
set_option linter.unusedSimpArgs false

def NoQ : Exit → Act → World → Prop := fun _ _ _ => False
/-- The held blocks stand as they stood. -/
def SH (B : Bs) (held : List Bk) (w : World) : Prop := ∀ b ∈ held, BkOk B.ρ B.β0 w b
def Tk.wp (P : Program) (B : Bs) (Q : Exit → Act → World → Prop) : Tk → Act → World → Prop
  | .code c, a, w => c.wp P Q a w
  | .ops all l, a, w => wpList P all Q l a w
  | .op o _, a, w => o.wp P a w (fun a' w' => Q .normal a' w') NoQ
  | .any os held listed k _, a, w => wpAnyH P .any os (NoPanic Q) (SH B held) k listed a w
  | .rounds c n, a, w => Code.rounds P c Q n a w
def Tk.pre (n0 : Nat) : Tk → St → Prop
  | .any os held _ _ _, s => heldIn held s.hp = true ∧ heldLt n0 held = true ∧ Region.noSelect os = true
  | _, _ => True
def RecOk (P : Program) (ρ : Env) (rec : Nat → Tk → St → Rs) : Prop := ∀ n0 tk s r, rec n0 tk s = .ok r → ∀ (B : Bs) Q, B.ρ = ρ → B.n0 = n0 → tk.pre n0 s → LOk B Q r → ∀ β a w, B.Md s β a w → tk.wp P B Q a w

theorem out1_ok {B : Bs} {Q : Exit → Act → World → Prop} {s : St} {r : List Lf} (h : out1 s = .ok r) (hl : LOk B Q r) : ∀ β a w, B.Md s β a w → Q .normal a w := by
  injection h with h
  subst h
  exact hl _ (List.mem_cons_self ..)
theorem end_ok {B : Bs} {Q : Exit → Act → World → Prop} {e : Ex} {s : St} {r : List Lf} (h : (Except.ok [.out e s] : Rs) = .ok r) (hl : LOk B Q r) : ∀ β a w, B.Md s β a w → Q e.to a w := by
  injection h with h
  subst h
  exact hl _ (List.mem_cons_self ..)
theorem wp_weaken {P : Program} {o : Oper} {a : Act} {w : World} {K K' : Act → World → Prop} {Q : Exit → Act → World → Prop} (hk : ∀ a w, K a w → K' a w) (h : o.wp P a w K NoQ) : o.wp P a w K' Q := by
  unfold Oper.wp at *
  generalize (execOp a.eval o).run P w = r at *
  cases r with
  | ok n w' =>
    cases n <;> simp only [Oper.upon] at h ⊢ <;> first
      | exact hk _ _ h
      | exact Rows.mono h (fun _ _ he => hk _ _ he)
      | (refine Calls.mono h (fun e w'' he => ?_)
         cases e with
         | returned v => exact hk _ _ he
         | panicked c => exact he.elim
         | outgrown => obtain ⟨_, _, he⟩ := he; exact he.elim)
  | halt x w' => cases x <;> simp only [Oper.upon] at h ⊢ <;> first
    | exact h
    | exact (h : False).elim
theorem wp_value {P : Program} {o : Oper} {a : Act} {w w' : World} {K : Act → World → Prop} {Q : Exit → Act → World → Prop} {v : Value} (h : (execOp a.eval o).run P w = .ok (.value v) w') (hk : K (a.put o.dst v) w') : o.wp P a w K Q := by
  unfold Oper.wp
  rw [h]
  exact hk
theorem wp_skip_ {P : Program} {o : Oper} {a : Act} {w w' : World} {K : Act → World → Prop} {Q : Exit → Act → World → Prop} (h : (execOp a.eval o).run P w = .ok .skip w') (hk : K (a.put o.dst undef) w') : o.wp P a w K Q := by
  unfold Oper.wp
  rw [h]
  exact hk

theorem learnAll_Md {B : Bs} {β : Bn} {a : Act} {w : World} : ∀ (m : List Tm) (s : St), B.Md s β a w → Met B.ρ m → B.Md (learnAll s m) β a w
  | [], _, h, _ => h
  | t :: m, s, h, hm => learnAll_Md m (s.learn t) (Sy.Md.learn h (hm t (List.mem_cons_self ..))) fun x hx => hm x (List.mem_cons_of_mem _ hx)
section
variable {P : Program} {ρ : Env} {sp : List Spec} {rec : Nat → Tk → St → Rs} {B : Bs} {Q : Exit → Act → World → Prop} {β : Bn} {a : Act} {w : World} {s : St} {r : List Lf} {n0 : Nat}

theorem Md_put {d : Option Tmp} {v : SV} {u : Value} (h : B.Md s β a w) (hu : v.den B.ρ β = u) : B.Md (s.put d v) β (a.put d u) w := by
  rw [← hu]
  exact Sy.Md.put h d v

/-! Calls. -/
def Bs.at (B : Bs) (β : Bn) (n : Nat) : Bs := { B with β0 := β, n0 := n }
theorem gc_mem {n : Nat} {v : SV} {hp : List Bk} {b : Bk} (h : b ∈ gcHp n v hp) : b ∈ hp := (List.mem_filter.1 h).1
theorem Md.leave (hM : B.Md s β a w) (ht : s.tm.all (SV.lt s.nx) = true) (hn : B.n0 ≤ s.nx) {s1 : St} {β1 : Bn} {a1 : Act} {w1 : World} (h1 : (B.at β s.nx).Md s1 β1 a1 w1) (d : Option Tmp) (v : SV) :
    B.Md (leaveS s s1 d v) β1 (a.put d (v.den B.ρ β1)) w1 := by
  have hag : ∀ l, l < s.nx → β1 l = β l := h1.old
  refine ⟨?_, fun b hb => h1.hp b (gc_mem hb), fun x hx y hy => h1.ne x (gc_mem hx) y (gc_mem hy), fun b hb => h1.may b (gc_mem hb), h1.cx, h1.only, fun l hl => (hag l (by omega)).trans (hM.old l hl)⟩
  have : a = ⟨(s.tm.map (SV.den B.ρ β1)).toArray, []⟩ := by
    rw [hM.act]
    congr 2
    apply List.map_congr_left
    intro x hx
    exact (SV.den_agree B.ρ hag (List.all_eq_true.1 ht x hx)).symm
  rw [this]
  exact act_put _ _ _
theorem Md.rebase (hM : B.Md s β a w) (hn : B.n0 ≤ s.nx) {s1 : St} {β1 : Bn} {a1 : Act} {w1 : World} (h1 : (B.at β s.nx).Md s1 β1 a1 w1) : B.Md s1 β1 a1 w1 :=
  ⟨h1.act, h1.hp, h1.ne, h1.may, h1.cx, h1.only, fun l hl => (h1.old l (by show l < s.nx; omega)).trans (hM.old l hl)⟩
theorem Md.base (hM : B.Md s β a w) (n : Nat) (tm : List SV) : (B.at β n).Md { s with tm := tm } β ⟨(tm.map (SV.den B.ρ β)).toArray, []⟩ w :=
  ⟨rfl, hM.hp, hM.ne, hM.may, hM.cx, hM.only, fun _ _ => rfl⟩
theorem learnAll_hp : ∀ (m : List Tm) (s : St), (learnAll s m).hp = s.hp
  | [], _ => rfl
  | t :: m, s => learnAll_hp m (s.learn t)
theorem learnAll_tm : ∀ (m : List Tm) (s : St), (learnAll s m).tm = s.tm
  | [], _ => rfl
  | t :: m, s => learnAll_tm m (s.learn t)
theorem call_enter {o : Oper} {k : Call} {g : Operand} {f : FuncId} {ls : List Nat} {vs : List SV} {fn : Func} (ho : o.op = .call k) (hk : k.callee = .value g) (hg : a.eval g = C.den ρ β (.fn f ls)) (hv : k.args.toList.map a.eval = vs.map (SV.den ρ β))
    (hf : P.funcs[f]? = some fn) (hb : fn.body.isSome = true) (hn : (fn.name == "runtime.NumGoroutine") = false) :
    (execOp a.eval o).run P w = .ok (.enter f ((vs ++ ptrs ls).map (SV.den ρ β)).toArray) w := by
  have e1 : k.args.map a.eval = (vs.map (SV.den ρ β)).toArray := by
    rw [← hv]
    cases k.args
    simp
  have e2 : (ptrs ls).map (SV.den ρ β) = ls.map fun l => Value.pointer (some ⟨β l, 0, none⟩) := by
    simp only [ptrs, List.map_map]
    rfl
  unfold execOp
  simp only [ho, resolve, hk, hg, C.den, Deferred.ofValue, Sem.run_bind, Sem.run_pure, Result.andThen_ok, invoke, callFunc, run_program, hf, hn, Bool.false_eq_true, if_false, e1]
  have hb' : fn.body.isNone = false := by
    cases hq : fn.body with
    | none => rw [hq] at hb; cases hb
    | some c => rfl
  simp only [hb', Bool.false_eq_true, if_false, Sem.run_pure]
  rw [List.map_append, e2]
  simp
theorem callRun_ok (hρ : ρ.good) (hsp : ∀ q ∈ sp, q.Ok P ρ) (hrec : RecOk P ρ rec) (hBρ : B.ρ = ρ) (hB : B.n0 = n0) {d : Option Tmp} {pos : String} {f : FuncId} {xs : List SV} (h : callRun P sp rec n0 d pos f xs s = .ok r) (hl : LOk B Q r) (hM : B.Md s β a w) :
    (∃ fn, P.funcs[f]? = some fn ∧ fn.body.isSome = true ∧ (fn.name == "runtime.NumGoroutine") = false) ∧
    Calls P f (xs.map (SV.den ρ β)).toArray w fun
      | .returned v, w'' => Q .normal (a.put d v) w''
      | .panicked chain, w'' => NoQ (.panic chain) a w''
      | .outgrown, _ => LetsOut NoQ := by
  subst hBρ hB
  unfold callRun at h
  split at h
  · rename_i hq
    simp only [Bool.and_eq_true] at hq
    have hn := Nat.le_of_ble_eq_true hq.2
    split at h
    · rename_i fn hf
      split at h
      · rename_i c hb
        split at h
        · cases h
        · rename_i hname
          have hname : (fn.name == "runtime.NumGoroutine") = false := by simpa using hname
          refine ⟨⟨fn, hf, by rw [hb]; rfl, hname⟩, ?_⟩
          split at h
          · rename_i q hfs
            have hs := findSp_ok hfs
            split at h
            · rename_i m s1 v hpre hgo
              obtain ⟨hm, _, r', hr, hlr⟩ := mustL_ok h hl hM
              have hM0 := Md.base hM s.nx []
              have hc := hsp q hs.1 (B.at β s.nx) { s with tm := [] } xs m s1 v rfl hpre hgo hm _ _ _ hM0
              rw [hs.2] at hc
              refine hc.mono ?_
              rintro e w' ⟨β', a', rfl, hM'⟩
              have hM2 := learnAll_Md m _ hM' hm
              exact out1_ok hr hlr _ _ _ (Md.leave hM hq.1 hn hM2 d v)
            · cases h
          · obtain ⟨l', hl', hbd⟩ := bindR_ok h
            refine calls_of_wp hf hb ?_
            have hM0 := Md.base hM s.nx (enterS fn xs s).tm
            have hact : (⟨(xs.map (SV.den B.ρ β)).toArray ++ Array.replicate (fn.ntmps - (xs.map (SV.den B.ρ β)).toArray.size) undef, []⟩ : Act) = ⟨((enterS fn xs s).tm.map (SV.den B.ρ β)).toArray, []⟩ := by
              simp [enterS, undS_den]
            rw [hact]
            refine hrec s.nx (.code c) (enterS fn xs s) l' hl' (B.at β s.nx) _ rfl rfl trivial ?_ β _ w hM0
            refine bindL_ok (B := B) (B' := B.at β s.nx) (Q := Q) rfl (fun s β1 a1 w1 h1 => ⟨β1, a1, Md.rebase hM hn h1⟩) ?_ hbd hl
            intro e s1 r' hf' hlr β1 a1 w1 h1
            have done : ∀ (v : SV), retS P s1 fn.results.toList = some v → out1 (leaveS s s1 d v) = .ok r' → a1.defers = [] ∧ ∃ v, (results fn a1.tmps).run P w1 = .ok v w1 ∧ Q .normal (a.put d v) w1 := by
              intro v hv hr
              refine ⟨by rw [h1.act], v.den B.ρ β1, retS_ok h1 hv, ?_⟩
              exact out1_ok hr hlr _ _ _ (Md.leave hM hq.1 hn h1 d v)
            cases e with
            | exit n => cases hf'
            | normal =>
              simp only [] at hf'
              split at hf'
              · rename_i v hv; exact done v hv hf'
              · cases hf'
            | ret =>
              simp only [] at hf'
              split at hf'
              · rename_i v hv; exact done v hv hf'
              · cases hf'
      · cases h
    · cases h
  · cases h

theorem opRun_ok (hρ : ρ.good) (hsp : ∀ q ∈ sp, q.Ok P ρ) (hrec : RecOk P ρ rec) (hBρ : B.ρ = ρ) (hB : B.n0 = n0) {o : Oper} {n : Nat} (h : opRun P sp rec n0 o n s = .ok r) (hl : LOk B Q r) (hM : B.Md s β a w) :
    o.wp P a w (fun a' w' => Q .normal a' w') NoQ := by
  have hρ' : B.ρ.good := by rw [hBρ]; exact hρ
  have hev : ∀ x v, opd s.tm x = some v → a.eval x = v.den B.ρ β := fun x v hx => Sy.Md.opd hM hx
  unfold opRun at h
  split at h
  · rename_i m v hp
    obtain ⟨hm, hM1, r', hr, hlr⟩ := mustL_ok h hl hM
    exact wp_value (pureS_ok hρ' hM.cx hev hp hm w) (out1_ok hr hlr _ _ _ (Md_put hM1 rfl))
  · split at h
    · rename_i m v hp
      obtain ⟨hm, hM1, r', hr, hlr⟩ := mustL_ok h hl hM
      exact wp_value (memB_ok hM.cx hM.hp hev hp hm) (out1_ok hr hlr _ _ _ (Md_put hM1 rfl))
    split at h
    · rename_i m hp' nx' v hp
      obtain ⟨hm, hM1, r', hr, hlr⟩ := mustL_ok h hl hM
      obtain ⟨β', w', rr, hrun, hv, hM'⟩ := tabA_ok hρ' hM1 (learnAll_hp m s) (learnAll_tm m s) hM.cx (by rw [hB]; exact hp) hm
      rcases hv with rfl | ⟨rfl, rfl⟩
      · exact wp_value hrun (out1_ok hr hlr _ _ _ (Md_put hM' rfl))
      · exact wp_skip_ hrun (out1_ok hr hlr _ _ _ (Md_put (v := undS) hM' rfl))
    split at h
    · rename_i t x y ho
      split at h
      · rename_i x' y' hx hy
        split at h
        · rename_i hp' hst
          obtain ⟨w', hrun, hM'⟩ := storeS_ok hρ' hM hst
          refine wp_skip_ (w' := w') ?_ (out1_ok h hl _ _ _ (Md_put (v := undS) hM' rfl))
          unfold execOp
          simp only [ho, hev _ _ hx, hev _ _ hy, Sem.run_bind, hrun, Result.andThen_ok, Sem.run_pure]
        · cases h
      · cases h
    · rename_i t ho
      split at h
      · rename_i cs hz
        split at h
        · rename_i q
          simp only [Bool.and_eq_true, Bool.not_eq_true'] at q
          have hM' := Sy.Md.new hM n (by rw [hB]; exact Nat.le_of_ble_eq_true q.1) q.2.1 t cs q.2.2
          refine wp_value (v := .pointer (some ⟨w.heap.size, 0, none⟩)) (w' := w.alloc (.cells (denL B.ρ β cs).toArray t)) ?_ (out1_ok h hl _ _ _ (Md_put hM' (by
            show Value.pointer (some ⟨upd β n w.heap.size n, 0, none⟩) = _
            rw [upd_new])))
          unfold execOp
          simp only [ho]
          simp only [Sem.run_bind, zeroS_ok (ρ := B.ρ) (β := β) hz w, Result.andThen_ok, Sem.run_pure]
        · cases h
      · cases h
    · rename_i t x ho
      split at h
      · rename_i v hx
        split at h
        · rename_i q
          simp only [Bool.and_eq_true, Bool.not_eq_true'] at q
          have hM' := Sy.Md.new hM n (by rw [hB]; exact Nat.le_of_ble_eq_true q.1) q.2.1 t v.cs q.2.2
          refine wp_value (v := .pointer (some ⟨w.heap.size, 0, none⟩)) (w' := w.alloc (.cells (denL B.ρ β v.cs).toArray t)) ?_ (out1_ok h hl _ _ _ (Md_put hM' (by
            show Value.pointer (some ⟨upd β n w.heap.size n, 0, none⟩) = _
            rw [upd_new])))
          unfold execOp
          simp only [ho, hev _ _ hx]
          simp only [Sem.run_bind, SV.den, box_ok hρ' (β := β) (P := P) (t := t) v w, Result.andThen_ok, Sem.run_pure]
        · cases h
      · cases h
    · rename_i t len parts ho
      split at h
      · rename_i ps hps
        split at h
        · rename_i e cs hrow
          split at h
          · rename_i q
            simp only [Bool.and_eq_true, Bool.not_eq_true'] at q
            have hM' := Sy.Md.new hM n (by rw [hB]; exact Nat.le_of_ble_eq_true q.1) q.2.1 e cs q.2.2
            have hrun := rowS_ok hρ' (β := β) hrow w
            rw [← partsS_ok hev hps] at hrun
            refine wp_value (v := .slice (some ⟨w.heap.size, 0, none⟩) len len) (w' := w.alloc (.cells (denL B.ρ β cs).toArray e)) ?_ (out1_ok h hl _ _ _ (Md_put hM' (by
              show Value.slice (some ⟨upd β n w.heap.size n, 0, none⟩) ((len : Int)).toNat ((len : Int)).toNat = _
              rw [upd_new]
              simp)))
            unfold execOp
            simp only [ho]
            have e1 : (parts.map fun p => (p.1, a.eval p.2)) = (parts.toList.map fun p => (p.1, a.eval p.2)).toArray := by
              cases parts
              simp
            rw [← e1] at hrun
            simp only [Sem.run_bind]
            rw [hrun]
            rfl
          · cases h
        · cases h
      · cases h
    · rename_i sT dT x ho
      split at h
      · rename_i t hx
        split at h
        · rename_i m e hb
          split at h
          · rename_i q
            simp only [Bool.and_eq_true] at q
            obtain ⟨hm, hM1, r', hr, hlr⟩ := mustL_ok h hl hM
            have ehp : (learnAll s m).hp = s.hp := learnAll_hp m s
            have etm : (learnAll s m).tm = s.tm := learnAll_tm m s
            have efr : ∀ j, (learnAll s m).free j = s.free j := fun j => by unfold St.free; rw [ehp, etm]
            obtain ⟨β', w', hrun, hM'⟩ := byteS_ok hM1 hM.cx hb hm n (by rw [hB]; exact Nat.le_of_ble_eq_true q.1) (by rw [efr]; exact q.2.1) (by rw [efr]; exact q.2.2)
            refine wp_value (v := C.den B.ρ β' (.slr n (.il 0) (mkLen s.cx t) (.il 0))) (w' := w') ?_ (out1_ok hr hlr _ _ _ (Md_put hM' rfl))
            have hx' : a.eval x = .string (den B.ρ t).s := hev _ _ hx
            unfold execOp
            simp only [ho, hx', Sem.run_bind, hrun, Result.andThen_ok, Sem.run_pure]
          · cases h
        · cases h
      · cases h
    · rename_i k ho
      split at h
      · rename_i g hk
        split at h
        · rename_i f ls vs hg hv
          obtain ⟨⟨fn, hf, hb, hn⟩, hc⟩ := callRun_ok hρ hsp hrec hBρ hB h hl hM
          subst hBρ
          unfold Oper.wp
          rw [call_enter ho hk (hev _ _ hg) (allS_ok hev hv) hf hb hn]
          exact hc
        · cases h
      · split at h
        · rename_i m old e str hg
          split at h
          · rename_i q
            simp only [Bool.and_eq_true] at q
            obtain ⟨hm, hM1, r', hr, hlr⟩ := mustL_ok h hl hM
            have ehp : (learnAll s m).hp = s.hp := learnAll_hp m s
            have etm : (learnAll s m).tm = s.tm := learnAll_tm m s
            have efr : ∀ j, (learnAll s m).free j = s.free j := fun j => by unfold St.free; rw [ehp, etm]
            obtain ⟨β', w', hrun, hM'⟩ := growS_ok hM1 hM.cx hev ho (by rw [ehp]; exact hg) hm n (by rw [hB]; exact Nat.le_of_ble_eq_true q.1) (by rw [efr]; exact q.2.1) (by rw [efr]; exact q.2.2)
            exact wp_value hrun (out1_ok hr hlr _ _ _ (Md_put hM' rfl))
          · cases h
        · cases h
      · cases h
    · cases h
end
end Sy
end Go.Proofs.Ytnmfmjlpfhdgeaa
