/- Each operation that only reckons, run with letters. -/
import Derived.Test.YtnmfmjlpfhdgeaaSyD
import Derived.BigFrame
import Derived.Laws.Tables
import Derived.Laws.Small
import Derived.Laws.Slices
import Derived.Laws.Strings2
import Derived.Laws.Unary
import Derived.Laws.Cover1
namespace Go.Proofs.Ytnmfmjlpfhdgeaa
namespace Sy
open Go Go.RowKit
set_option linter.unusedVariables false
set_option linter.unusedSimpArgs false

abbrev PR := Option (List Tm × SV)
def sB (m : List Tm) (t : Tm) : PR := some (m, .one (.c (.bool t)))
def sI (m : List Tm) (k : IntKind) (t : Tm) : PR := some (m, .one (.c (.int k t)))
def sS (m : List Tm) (t : Tm) : PR := some (m, .one (.c (.str t)))
def eqOr (op : BinOp) (t : Tm) : PR :=
  match op with
  | .eql => sB [] t
  | .neq => sB [] (mkNot t)
  | _ => none
/-- Two values that are no numbers: equal? -/
def eqV (P : Program) (c : Cx) (t : TypeId) (x y : V1) : Option Tm :=
  match P.underlying t, x, y with
  | some (.pointer _), .c .nptr, .c .nptr => some (.bl true)
  | some (.pointer _), .c .nptr, .c (.ptr _ _) => some (.bl false)
  | some (.pointer _), .c (.ptr _ _), .c .nptr => some (.bl false)
  | some (.pointer _), .c .nptr, .c (.ptv _) => some (.bl false)
  | some (.pointer _), .c (.ptv _), .c .nptr => some (.bl false)
  | some (.slice _), .c .nslc, .c .nslc => some (.bl true)
  | some (.slice _), .c .nslc, .c (.slc _ _ _ _) => some (.bl false)
  | some (.slice _), .c (.slc _ _ _ _), .c .nslc => some (.bl false)
  | some (.map _ _), .c .nmap, .c .nmap => some (.bl true)
  | some (.map _ _), .c .nmap, .c (.map _) => some (.bl false)
  | some (.map _ _), .c (.map _), .c .nmap => some (.bl false)
  | some .bool, .c (.bool a), .c (.bool b) => some (mkB c (.bq a b))
  | some (.struct _), .agg xs, .agg ys => if P.eqGuardType P.depth t then none else eqS P c 8 t (.agg xs) (.agg ys)
  | _, _, _ => none
def binS (P : Program) (c : Cx) (op : BinOp) (t : TypeId) (x y : SV) : PR :=
  match x, y with
  | .one (.c (.int k a)), .one (.c (.int l b)) =>
    match shiftS c op k a b with
    | some (m, r) => some (m, .one (.c r))
    | none => if Nat.beq (kNo k) (kNo l) then
        match arith c op k a b with
        | some (m, r) => some (m, .one (.c r))
        | none => none
      else none
  | .one (.c (.str a)), .one (.c (.str b)) =>
    match op with
    | .add => sS (need c (.le (mkAdd (mkLen c a) (mkLen c b)) (.il 9223372036854775807))) (mkApp a b)
    | .eql => sB [] (mkSeq c a b)
    | .neq => sB [] (mkNot (mkSeq c a b))
    | _ => none
  | .one a, .one b =>
    match eqV P c t a b with
    | some r => eqOr op r
    | none => none
  | _, _ => none

section
variable {P : Program} (w : World) (d : Nat) (t : TypeId)
theorem eqp_nn {e : TypeId} (h : P.underlying t = some (.pointer e)) : (Op.equalIn (d + 1) t (.pointer none) (.pointer none)).run P w = .ok true w := by simp [Op.equalIn, run_underlying h]
theorem eqp_ns {e : TypeId} (h : P.underlying t = some (.pointer e)) (a : Addr) : (Op.equalIn (d + 1) t (.pointer none) (.pointer (some a))).run P w = .ok false w := by simp [Op.equalIn, run_underlying h]
theorem eqp_sn {e : TypeId} (h : P.underlying t = some (.pointer e)) (a : Addr) : (Op.equalIn (d + 1) t (.pointer (some a)) (.pointer none)).run P w = .ok false w := by simp [Op.equalIn, run_underlying h]
theorem eqs_nn {e : TypeId} (h : P.underlying t = some (.slice e)) (a b c f : Nat) : (Op.equalIn (d + 1) t (.slice none a b) (.slice none c f)).run P w = .ok true w := by simp [Op.equalIn, run_underlying h]
theorem eqs_ns {e : TypeId} (h : P.underlying t = some (.slice e)) (x : Addr) (a b c f : Nat) : (Op.equalIn (d + 1) t (.slice none a b) (.slice (some x) c f)).run P w = .ok false w := by simp [Op.equalIn, run_underlying h]
theorem eqs_sn {e : TypeId} (h : P.underlying t = some (.slice e)) (x : Addr) (a b c f : Nat) : (Op.equalIn (d + 1) t (.slice (some x) a b) (.slice none c f)).run P w = .ok false w := by simp [Op.equalIn, run_underlying h]
theorem eqm_nn {k e : TypeId} (h : P.underlying t = some (.map k e)) : (Op.equalIn (d + 1) t (.map none) (.map none)).run P w = .ok true w := by simp [Op.equalIn, run_underlying h]
theorem eqm_ns {k e : TypeId} (h : P.underlying t = some (.map k e)) (a : Nat) : (Op.equalIn (d + 1) t (.map none) (.map (some a))).run P w = .ok false w := by simp [Op.equalIn, run_underlying h]
theorem eqm_sn {k e : TypeId} (h : P.underlying t = some (.map k e)) (a : Nat) : (Op.equalIn (d + 1) t (.map (some a)) (.map none)).run P w = .ok false w := by simp [Op.equalIn, run_underlying h]
end
theorem eqV_ok {ρ : Env} {β : Bn} {P : Program} {c : Cx} (hc : c.ok ρ) {t : TypeId} {x y : V1} {r : Tm} (h : eqV P c t x y = some r) (w : World) :
    (Op.equal t (x.den ρ β) (y.den ρ β)).run P w = .ok (den ρ r).b w ∧ (∀ op ox oy, (eqGuard op t ox oy (x.den ρ β) (y.den ρ β)).run P w = .ok () w) ∧
    (binOp .eql t (x.den ρ β) (y.den ρ β) = do pure (.bool (← Op.equal t (x.den ρ β) (y.den ρ β)))) ∧ (binOp .neq t (x.den ρ β) (y.den ρ β) = do pure (.bool (!(← Op.equal t (x.den ρ β) (y.den ρ β))))) := by
  have g : ∀ v u : Value, (∀ op ox oy, eqGuard op t ox oy v u = pure ()) → (∀ op ox oy, (eqGuard op t ox oy v u).run P w = .ok () w) := fun v u h op ox oy => by rw [h]; rfl
  unfold eqV at h
  split at h
  · rename_i e hu
    injection h with h; subst h
    exact ⟨eqp_nn w 9999 t hu, g _ _ fun op ox oy => eqGuard_at_pointer .., rfl, rfl⟩
  · rename_i e l o hu
    injection h with h; subst h
    exact ⟨eqp_ns w 9999 t hu _, g _ _ fun op ox oy => eqGuard_at_pointer .., rfl, rfl⟩
  · rename_i e l o hu
    injection h with h; subst h
    exact ⟨eqp_sn w 9999 t hu _, g _ _ fun op ox oy => eqGuard_at_pointer .., rfl, rfl⟩
  · rename_i e l hu
    injection h with h; subst h
    exact ⟨eqp_ns w 9999 t hu _, g _ _ fun op ox oy => eqGuard_at_pointer .., rfl, rfl⟩
  · rename_i e l hu
    injection h with h; subst h
    exact ⟨eqp_sn w 9999 t hu _, g _ _ fun op ox oy => eqGuard_at_pointer .., rfl, rfl⟩
  · rename_i e hu
    injection h with h; subst h
    exact ⟨eqs_nn w 9999 t hu _ _ _ _, g _ _ fun op ox oy => eqGuard_at_slice .., rfl, rfl⟩
  · rename_i e l o a b hu
    injection h with h; subst h
    exact ⟨eqs_ns w 9999 t hu _ _ _ _ _, g _ _ fun op ox oy => eqGuard_at_slice .., rfl, rfl⟩
  · rename_i e l o a b hu
    injection h with h; subst h
    exact ⟨eqs_sn w 9999 t hu _ _ _ _ _, g _ _ fun op ox oy => eqGuard_at_slice .., rfl, rfl⟩
  · rename_i e f hu
    injection h with h; subst h
    exact ⟨eqm_nn w 9999 t hu, g _ _ fun op ox oy => eqGuard_at_map .., rfl, rfl⟩
  · rename_i e f l hu
    injection h with h; subst h
    exact ⟨eqm_ns w 9999 t hu _, g _ _ fun op ox oy => eqGuard_at_map .., rfl, rfl⟩
  · rename_i e f l hu
    injection h with h; subst h
    exact ⟨eqm_sn w 9999 t hu _, g _ _ fun op ox oy => eqGuard_at_map .., rfl, rfl⟩
  · rename_i a b hu
    injection h with h; subst h
    refine ⟨?_, g _ _ fun op ox oy => eqGuard_at_bool .., rfl, rfl⟩
    show (Op.equalIn (9999 + 1) t (.bool (den ρ a).b) (.bool (den ρ b).b)).run P w = _
    rw [run_equalIn_bool' w _ t _ _ hu, mkB_ok hc]
    rfl
  · rename_i F xs ys hu
    split at h
    · cases h
    · rename_i hg
      refine ⟨eqS_ok hc h 9992 w, fun op ox oy => ?_, rfl, rfl⟩
      exact run_eqGuard_agg w op t ox oy _ _ (by simpa using hg)
  · cases h
theorem binS_ok {ρ : Env} {β : Bn} {P : Program} {c : Cx} (hc : c.ok ρ) {op : BinOp} {t : TypeId} {x y : SV} {m : List Tm} {r : SV} (h : binS P c op t x y = some (m, r)) (hm : Met ρ m) (ox oy : Operand) (w : World) :
    (do eqGuard op t ox oy (x.den ρ β) (y.den ρ β); binOp op t (x.den ρ β) (y.den ρ β) : Sem Value).run P w = .ok (r.den ρ β) w := by
  unfold binS at h
  split at h
  · rename_i k a l b
    show (do eqGuard op t ox oy (.int k (den ρ a).i) (.int l (den ρ b).i); binOp op t (.int k (den ρ a).i) (.int l (den ρ b).i) : Sem Value).run P w = _
    rw [eqGuard_at_int]
    simp only [Sem.run_bind, Sem.run_pure, Result.andThen_ok]
    split at h
    · rename_i m' r' q
      injection h with h
      injection h with h1 h2
      subst h1 h2
      exact shiftS_ok hc q hm P t w
    · split at h
      · rename_i hk
        have hk := kNo_inj (Nat.eq_of_beq_eq_true hk)
        subst hk
        split at h
        · rename_i m' r' q
          injection h with h
          injection h with h1 h2
          subst h1 h2
          exact arith_ok hc q hm P t w
        · cases h
      · cases h
  · rename_i a b
    show (do eqGuard op t ox oy (.string (den ρ a).s) (.string (den ρ b).s); binOp op t (.string (den ρ a).s) (.string (den ρ b).s) : Sem Value).run P w = _
    rw [eqGuard_at_string]
    simp only [Sem.run_bind, Sem.run_pure, Result.andThen_ok]
    split at h
    · injection h with h
      injection h with h1 h2
      subst h1 h2
      have h0 := le_of (need_ok hc hm)
      rw [mkAdd_ok, mkLen_ok hc, mkLen_ok hc] at h0
      change _ ≤ (9223372036854775807 : Int) at h0
      rw [binOp_string_add]
      simp only [Op.stringOp, IntKind.max_i64]
      rw [if_neg (by omega)]
      show _ = Result.ok (Value.string _) w
      rw [mkApp_ok]
      rfl
    · injection h with h
      injection h with h1 h2
      subst h1 h2
      rw [binOp_string_eql]
      exact res_bool (mkSeq_ok hc a b)
    · injection h with h
      injection h with h1 h2
      subst h1 h2
      rw [show binOp .neq t (.string (den ρ a).s) (.string (den ρ b).s) = Op.stringOp .neq (den ρ a).s (den ρ b).s from by simp [binOp]]
      exact res_bool (by rw [mkNot_ok, mkSeq_ok hc])
    · cases h
  · rename_i a b _ _
    split at h
    · rename_i q hq
      have := eqV_ok (ρ := ρ) (β := β) hc hq w
      show (do eqGuard op t ox oy (a.den ρ β) (b.den ρ β); binOp op t (a.den ρ β) (b.den ρ β) : Sem Value).run P w = _
      simp only [Sem.run_bind, this.2.1, Result.andThen_ok]
      unfold eqOr at h
      split at h
      · injection h with h
        injection h with h1 h2
        subst h1 h2
        rw [this.2.2.1]
        simp only [Sem.run_bind, this.1, Result.andThen_ok]
        rfl
      · injection h with h
        injection h with h1 h2
        subst h1 h2
        rw [this.2.2.2]
        simp only [Sem.run_bind, this.1, Result.andThen_ok]
        exact res_bool (mkNot_ok ..)
      · cases h
    · cases h
  · cases h

def unS (c : Cx) (op : UnOp) (x : SV) : PR :=
  match op, x with
  | .not, .one (.c (.bool b)) => sB [] (mkNot b)
  | .neg, .one (.c (.int k n)) => sI [] k (mkWrap c.bs k (mkSub (.il 0) n))
  | .xor, .one (.c (.int k n)) => sI [] k (mkBop .xor k (.il (if k.signed then -1 else k.max)) n)
  | _, _ => none
theorem unS_ok {ρ : Env} {β : Bn} {P : Program} {c : Cx} (hc : c.ok ρ) {op : UnOp} {x : SV} {m : List Tm} {r : SV} (h : unS c op x = some (m, r)) (w : World) : (Op.unary op (x.den ρ β)).run P w = .ok (r.den ρ β) w := by
  unfold unS at h
  split at h
  · injection h with h
    injection h with h1 h2
    subst h1 h2
    exact res_bool (mkNot_ok ..)
  · injection h with h
    injection h with h1 h2
    subst h1 h2
    exact res_int (by rw [mkWrap_ok hc.bs, mkSub_ok]; rfl)
  · injection h with h
    injection h with h1 h2
    subst h1 h2
    exact res_int (by rw [mkBop_ok]; rfl)
  · cases h
def convS (P : Program) (c : Cx) (src dst : TypeId) (x : SV) : PR :=
  match x with
  | .one (.c (.int k n)) =>
    match P.underlying src, P.underlying dst with
    | some _, some (.int l) => sI [] l (mkWrap c.bs l n)
    | _, _ => none
  | .one (.c (.str s)) =>
    match P.underlying src, P.underlying dst with
    | some _, some .string => sS [] s
    | _, _ => none
  | _ => none
theorem convS_ok {ρ : Env} {β : Bn} {P : Program} {c : Cx} (hc : c.ok ρ) {src dst : TypeId} {x : SV} {m : List Tm} {r : SV} (h : convS P c src dst x = some (m, r)) (w : World) : (convert src dst (x.den ρ β)).run P w = .ok (r.den ρ β) w := by
  unfold convS at h
  split at h
  · rename_i k n
    split at h
    · rename_i d l hs hd
      injection h with h
      injection h with h1 h2
      subst h1 h2
      show (convert src dst (.int k (den ρ n).i)).run P w = _
      simp only [convert, Sem.run_bind, run_underlying hs, run_underlying hd, Result.andThen_ok, Conv.intToInt]
      exact res_int (mkWrap_ok hc.bs ..)
    · cases h
  · rename_i s
    split at h
    · rename_i d hs hd
      injection h with h
      injection h with h1 h2
      subst h1 h2
      show (convert src dst (.string (den ρ s).s)).run P w = _
      simp only [convert, Sem.run_bind, run_underlying hs, run_underlying hd, Result.andThen_ok]
      rfl
    · cases h
  · cases h

/-- lo, hi of a slice expression: the numbers, and what is to be shown (top: the highest hi that may be). -/
def optI : Option SV → Option (Option (IntKind × Tm))
  | none => some none
  | some (.one (.c (.int k t))) => some (some (k, t))
  | _ => none
def cutS (c : Cx) (s : Tm) (lo hi : Option (IntKind × Tm)) : PR :=
  let n := mkLen c s
  match lo, hi with
  | none, none => sS [] s
  | some (_, l), none => sS (need c (.le (.il 0) l) ++ need c (.le l n)) (mkCut c s l n)
  | none, some (_, h) => sS (need c (.le (.il 0) h) ++ need c (.le h n)) (mkCut c s (.il 0) h)
  | some (_, l), some (_, h) => sS (need c (.le (.il 0) l) ++ (need c (.le l h) ++ need c (.le h n))) (mkCut c s l h)
/-- Of a slice whose place begins at a number that is known. -/
def resS (c : Cx) (l off : Nat) (len cap : Tm) (size : Nat) (lo hi : Option (IntKind × Tm)) : PR :=
  let hiT := match hi with | some (_, h) => h | none => len
  match lo with
  | none => some (need c (.le (.il 0) hiT) ++ need c (.le hiT cap), .one (.c (.slc l off hiT cap)))
  | some (_, lt) =>
    match isLit lt with
    | some n =>
      if leI 0 n && sure c (.lt (.il n) cap) then
        some (need c (.le (.il n) hiT) ++ need c (.le hiT cap), .one (.c (.slc l (off + n.toNat * size) (mkSub hiT (.il n)) (mkSub cap (.il n)))))
      else none
    | none => none
def sliceS (P : Program) (c : Cx) (t : TypeId) (x : SV) (lo hi mx : Option SV) : PR :=
  match mx, optI lo, optI hi with
  | none, some lo, some hi =>
    match P.underlying t, x with
    | some .string, .one (.c (.str s)) => cutS c s lo hi
    | some (.slice e), .one (.c (.slc l off len cap)) =>
      match P.info? e with
      | some i => resS c l off len cap i.size lo hi
      | none => none
    | _, _ => none
  | _, _, _ => none
theorem optI_ok {ρ : Env} {β : Bn} {o : Option SV} {r : Option (IntKind × Tm)} (h : optI o = some r) : o.map (SV.den ρ β) = r.map fun p => Value.int p.1 (den ρ p.2).i := by
  unfold optI at h
  split at h
  · injection h with h; subst h; rfl
  · injection h with h; subst h; rfl
  · cases h
theorem cutS_ok {ρ : Env} {β : Bn} {P : Program} {c : Cx} (hc : c.ok ρ) {t : TypeId} (ht : P.underlying t = some .string) {s : Tm} {lo hi : Option (IntKind × Tm)} {m : List Tm} {r : SV} (h : cutS c s lo hi = some (m, r)) (hm : Met ρ m) (w : World) :
    (Instr.sliceAt t (.string (den ρ s).s) (lo.map fun p => Value.int p.1 (den ρ p.2).i) (hi.map fun p => Value.int p.1 (den ρ p.2).i) none).run P w = .ok (r.den ρ β) w := by
  rw [run_sliceAt_string w t _ _ _ _ ht]
  unfold cutS at h
  have hn := mkLen_ok hc s
  have c0 : (0 : Int) = (den ρ (.il 0)).i := rfl
  rcases lo with _ | ⟨k, l⟩ <;> rcases hi with _ | ⟨k', u⟩ <;> simp only [] at h <;> injection h with h <;> injection h with h1 h2 <;> subst h1 h2 <;> simp only [Option.map_none, Option.map_some]
  · rw [run_slice_string_all w t _ ht]
    show _ = Result.ok (Value.string (den ρ s).s) w
    congr 2
    apply ByteArray.ext
    simp
  · have q1 := le_of (need_ok hc hm.l)
    have q2 := le_of (need_ok hc hm.r)
    rw [← c0] at q1
    rw [hn] at q2
    rw [run_slice_string_h w t _ ht k' _ q1 q2]
    show _ = Result.ok (Value.string _) w
    rw [mkCut_ok hc]
    rfl
  · have q1 := le_of (need_ok hc hm.l)
    have q2 := le_of (need_ok hc hm.r)
    rw [← c0] at q1
    rw [hn] at q2
    rw [run_slice_string_l w t _ ht k _ q1 q2]
    show _ = Result.ok (Value.string _) w
    rw [mkCut_ok hc, hn]
    rfl
  · have q1 := le_of (need_ok hc hm.l)
    have q2 := le_of (need_ok hc hm.r.l)
    have q3 := le_of (need_ok hc hm.r.r)
    rw [← c0] at q1
    rw [hn] at q3
    rw [run_slice_string w t _ k k' _ _ ht q1 q2 q3]
    show _ = Result.ok (Value.string _) w
    rw [mkCut_ok hc]
end Sy
end Go.Proofs.Ytnmfmjlpfhdgeaa
