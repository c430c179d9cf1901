/- Operations of a region one by one: those that only reckon; a call by a contract that leaves the world as it is. -/
import Derived.Test.YtagdnjhkoajbnaaDoorCv3
namespace Go.Proofs.YtagdnjhkoajbnaaDoor
namespace Sy
open Go Go.RowKit
set_option linter.unusedVariables false
set_option linter.unusedSimpArgs false

/-- Operations that only reckon, and ask nothing. -/
def pureL (P : Program) : List Oper → St → Option St
  | [], s => some s
  | o :: l, s => match o.guard, pureS P s.cx (opd s.tm) o.op with
    | none, some ([], r) => pureL P l (s.put o.dst r)
    | _, _ => none
def opsOf : Code → List Oper
  | .region _ ops _ => ops.toList
  | _ => []
section
variable {P : Program} {ρ : Env} {S : Nat → Prop} {w0 : World} {β0 : Bn} {n0 : Nat} {β : Bn} {w : World} {all : Array Oper} {Q : Exit → Act → World → Prop} {rest : List Oper}
theorem pureL_ok (hρ : ρ.good) : ∀ {l : List Oper} {s s' : St} {a : Act}, pureL P l s = some s' → Md ρ S w0 β0 n0 s β a w → (∀ a', Md ρ S w0 β0 n0 s' β a' w → wpList P all Q rest a' w) → wpList P all Q (l ++ rest) a w
  | [], s, s', a, h, hM, k => by
    injection h with h
    subst h
    exact k a hM
  | o :: l, s, s', a, h, hM, k => by
    simp only [pureL] at h
    split at h
    · rename_i r hg hp
      have hev : ∀ x v, opd s.tm x = some v → a.eval x = v.den ρ β := fun x v hx => Sy.Md.opd hM hx
      exact wpList_val hg (pureS_ok hρ hM.cx hev hp (fun t ht => by cases ht) w) (pureL_ok hρ h (Sy.Md.put hM o.dst r) k)
    · cases h
/-- A call whose contract leaves the world as it is. -/
def callAt (s : St) (o : Oper) : Option (FuncId × List SV) :=
  match o.guard, o.op with
  | none, .call k => match k.callee with
    | .value g => match opd s.tm g, allS (opd s.tm) k.args.toList with
      | some (.one (.c (.fn f []))), some vs => some (f, vs)
      | _, _ => none
    | _ => none
  | _, _ => none
theorem callAt_ok {s : St} {o : Oper} {a : Act} {f : FuncId} {vs : List SV} {fn : Func} (h : callAt s o = some (f, vs)) (hM : Md ρ S w0 β0 n0 s β a w) (hf : P.funcs[f]? = some fn) (hb : fn.body.isSome = true) (hn : (fn.name == "runtime.NumGoroutine") = false) {v : SV} {V : Value} (hV : v.den ρ β = V) (hc : Calls P f (vs.map (SV.den ρ β)).toArray w fun e w' => e = .returned V ∧ w' = w)
    (k : ∀ a', Md ρ S w0 β0 n0 (s.put o.dst v) β a' w → wpList P all Q rest a' w) : wpList P all Q (o :: rest) a w := by
  unfold callAt at h
  split at h
  · rename_i kk hg ho
    split at h
    · rename_i g hk
      split at h
      · rename_i f' vs' h1 h2
        injection h with h
        injection h with e1 e2
        subst e1 e2
        have hrun := call_enter (P := P) (ρ := ρ) (β := β) (a := a) (w := w) ho hk (f := f') (ls := []) (fn := fn) (vs := vs') (Sy.Md.opd hM h1) (allS_ok (fun x v hx => Sy.Md.opd hM hx) h2) hf hb hn
        rw [show vs' ++ ptrs [] = vs' from List.append_nil _] at hrun
        refine wpList_plain hg fun K hK => ?_
        unfold Oper.wp
        rw [hrun, Oper.upon_enter]
        refine hc.mono fun e w'' hh => ?_
        obtain ⟨rfl, rfl⟩ := hh
        refine hK _ _ (k _ ?_)
        have := Sy.Md.put hM o.dst v
        rwa [hV] at this
      · cases h
    · cases h
  · cases h
/-- A call whose contract gives a new table. -/
theorem callTab_ok {s : St} {o : Oper} {a : Act} {f : FuncId} {vs : List SV} {fn : Func} (h : callAt s o = some (f, vs)) (hM : Md ρ S w0 β0 n0 s β a w) (hf : P.funcs[f]? = some fn) (hb : fn.body.isSome = true) (hn : (fn.name == "runtime.NumGoroutine") = false) (hfr : (Nat.ble n0 s.nx && (s.free s.nx && s.free (s.nx + 1))) = true) {ty : TypeId} {lv : List Kd} {j : Nat} {out : V1 → SV} {outV : Value → Value}
    (hout : ∀ β x, (out x).den ρ β = outV (x.den ρ β)) (hj : ρ.i j = ((ρ.c j).length : Int)) (hc : Calls P f (vs.map (SV.den ρ β)).toArray w fun e w' => ∃ v, e = .returned (outV v) ∧ NewTab w w' v ty lv (ρ.c j))
    (k : ∀ β' a' w', Md ρ S w0 β0 n0 ((s.growT s.nx ty none lv (.cv j)).put o.dst (out (.c (.slt s.nx lv.length (.il 0) (.iv j) (.il 0))))) β' a' w' → wpList P all Q rest a' w') : wpList P all Q (o :: rest) a w := by
  unfold callAt at h
  split at h
  · rename_i kk hg ho
    split at h
    · rename_i g hk
      split at h
      · rename_i f' vs' h1 h2
        injection h with h
        injection h with e1 e2
        subst e1 e2
        simp only [Bool.and_eq_true] at hfr
        have hrun := call_enter (P := P) (ρ := ρ) (β := β) (a := a) (w := w) ho hk (f := f') (ls := []) (fn := fn) (vs := vs') (Sy.Md.opd hM h1) (allS_ok (fun x v hx => Sy.Md.opd hM hx) h2) hf hb hn
        rw [show vs' ++ ptrs [] = vs' from List.append_nil _] at hrun
        refine wpList_plain hg fun K hK => ?_
        unfold Oper.wp
        rw [hrun, Oper.upon_enter]
        refine hc.mono ?_
        rintro e w' ⟨v, rfl, hb1, g1, c1, rfl, hrow, hat⟩
        have hM1 := Sy.Md.growT hM s.nx (Nat.le_of_ble_eq_true hfr.1) hfr.2.1 hfr.2.2 (g := 0) (c := 0) (old := none) (t := .cv j) ⟨hrow, ⟨hb1.os, hb1.tape, hb1.output, hb1.size, fun k hk _ => hb1.block k hk⟩, hat.imp id .inr⟩ rfl (.inl rfl)
        refine hK _ _ (k (upd (upd β s.nx g1) (s.nx + 1) c1) _ _ ?_)
        have := Sy.Md.put hM1 o.dst (out (.c (.slt s.nx lv.length (.il 0) (.iv j) (.il 0))))
        rw [hout] at this
        have e : V1.den ρ (upd (upd β s.nx g1) (s.nx + 1) c1) (.c (.slt s.nx lv.length (.il 0) (.iv j) (.il 0))) = sltV g1 c1 (ρ.c j).length := by
          show C.den ρ _ (.slt s.nx lv.length (.il 0) (.iv j) (.il 0)) = _
          rw [slt_den, upd_new, upd_old (show s.nx ≠ s.nx + 1 from by omega), upd_new]
          show sltZ g1 c1 _ ((0 : Int)).toNat (ρ.i j).toNat ((0 : Int)).toNat = _
          rw [hj, show ((0 : Int)).toNat = 0 from rfl, sltZ_zero, Int.toNat_natCast]
        rw [e] at this
        exact this
      · cases h
    · cases h
  · cases h
end
end Sy
end Go.Proofs.YtagdnjhkoajbnaaDoor
