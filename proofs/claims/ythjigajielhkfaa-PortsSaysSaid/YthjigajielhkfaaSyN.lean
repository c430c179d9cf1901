/- Contracts in letters of the reference's small functions. -/
import Derived.Test.YthjigajielhkfaaSyM
import Derived.Test.YthjigajielhkfaaBytes
import Derived.Test.YthjigajielhkfaaSumWalks
namespace Go.Proofs.Ythjigajielhkfaa
namespace Sy
open Go Go.RowKit
set_option linter.unusedVariables false

def stdF : Nat → Dn → Dn → Dn → Dn
  | 0, x, _, _ => dI (numL x.s.data.toList : Int)
  | 1, x, _, _ => dI (sumN x.s.data.toList : Int)
  | _, x, _, _ => x
def mkEnv (is : List Int) (bs : List Bool) (ss : List ByteArray) (vs : List Value) : Env := ⟨fun n => is.getD n 0, fun n => bs.getD n false, fun n => ss.getD n none8, stdF, fun n => vs.getD n (.bool false), fun _ => .bool false, fun _ => []⟩
def ap1 (f : Nat) (x : Tm) : Tm := .ap f x (.il 0) (.il 0)

def numRes (c : Cx) : List SV → Option (SV × List Bd)
  | [.one (.c (.str s))] => some (.one (.c (.int .u64 (ap1 0 s))), [⟨ap1 0 s, 0, match isLit (mkLen c s) with | some k => if leI 0 k && leI k 8 then 256 ^ k.toNat - 1 else 18446744073709551615 | none => 18446744073709551615⟩])
  | _ => none
def numPre (c : Cx) : List SV → Option (List Tm)
  | [.one (.c (.str s))] => some (need c (.le (mkLen c s) (.il 8)))
  | _ => none
def numSp : Spec := pureSpec 124 numPre numRes
theorem pow_int (k : Nat) : ((256 ^ k : Nat) : Int) = (256 : Int) ^ k := by simp
theorem numSp_ok {ρ : Env} (hf : ρ.f = stdF) : numSp.Ok Try.prog ρ := by
  refine pureSpec_ok fun c xs m v bs hc hpre hres hm => ?_
  match xs, hpre, hres with
  | [.one (.c (.str s))], hpre, hres =>
    injection hpre with hpre
    injection hres with hres
    injection hres with h1 h2
    subst hpre h1 h2
    have hlen := le_of (need_ok hc hm)
    rw [mkLen_ok hc] at hlen
    change _ ≤ (8 : Int) at hlen
    have hs : (den ρ s).s.size ≤ 8 := by omega
    have hll := Lib.size_eq (den ρ s).s
    have hap : (den ρ (ap1 0 s)).i = (numL (den ρ s).s.data.toList : Int) := by
      show (ρ.f 0 (den ρ s) _ _).i = _
      rw [hf]
      rfl
    refine ⟨?_, fun β w => ?_⟩
    · intro x hx
      rcases List.mem_cons.1 hx with rfl | hx
      · show (0 : Int) ≤ (den ρ (ap1 0 s)).i ∧ (den ρ (ap1 0 s)).i ≤ _
        rw [hap]
        refine ⟨by omega, ?_⟩
        have h8 : (numL (den ρ s).s.data.toList : Int) ≤ 18446744073709551615 := by
          have := numL_le (l := (den ρ s).s.data.toList) (k := 8) (by omega)
          omega
        split
        · rename_i k hk
          split
          · rename_i q
            simp [leI] at q
            have hk2 : k = ((den ρ s).s.size : Int) := by
              have := mkLen_ok hc s
              rw [isLit_eq hk] at this
              exact this
            have := numL_le (l := (den ρ s).s.data.toList) (k := k.toNat) (by omega)
            show _ ≤ (256 : Int) ^ k.toNat - 1
            rw [← pow_int]
            omega
          · exact h8
        · exact h8
      · cases hx
    · refine (ref_num 8 (den ρ s).s w (by omega) hs).mono ?_
      rintro e w' ⟨rfl, n, rfl⟩
      refine ⟨?_, ⟨rfl, rfl, rfl, Nat.le_refl _, fun _ _ => rfl⟩⟩
      show _ = Ending.returned (.int .u64 (den ρ (ap1 0 s)).i)
      rw [hap]
/-! Sums do not see pairs of zeros. -/
def chrT (x : Tm) : Tm :=
  match isLit x with
  | some n => .sl [UInt8.ofNat (n % 256).toNat]
  | none => .chr x
theorem chrT_ok (ρ : Env) (x : Tm) : (den ρ (chrT x)).s = chrOf (den ρ x).i := by
  unfold chrT
  split
  · rename_i n hn
    rw [isLit_eq hn]
    rfl
  · rfl
def u8T (b : UInt8) : Tm := .il ((b.toNat : Nat) : Int)
theorem u8T_ok (ρ : Env) (b : UInt8) : UInt8.ofNat ((den ρ (u8T b)).i % 256).toNat = b := by
  show UInt8.ofNat ((((b.toNat : Nat) : Int)) % 256).toNat = b
  have := b.toNat_lt
  rw [show (((b.toNat : Nat) : Int) % 256).toNat = b.toNat from by omega]
  simp
/-- The bytes that are known, and the rest. -/
def bts : Tm → List Tm × Tm
  | .sl l => (l.map u8T, .sl [])
  | .chr x => ([x], .sl [])
  | .app a b => match bts a with
    | (p, .sl []) => match bts b with
      | (q, r) => (p ++ q, r)
    | (p, r) => (p, .app r b)
  | t => ([], t)
def byt (ρ : Env) (x : Tm) : UInt8 := UInt8.ofNat ((den ρ x).i % 256).toNat
theorem bts_ok (ρ : Env) : ∀ s : Tm, (den ρ s).s.data.toList = (bts s).1.map (byt ρ) ++ (den ρ (bts s).2).s.data.toList := by
  have app : ∀ a b : Tm, (den ρ (.app a b)).s.data.toList = (den ρ a).s.data.toList ++ (den ρ b).s.data.toList := fun a b => by
    show ((den ρ a).s ++ (den ρ b).s).data.toList = _
    simp
  intro s
  induction s with
  | sl l =>
    show l = (l.map u8T).map (byt ρ) ++ []
    rw [List.map_map, List.append_nil]
    exact (List.map_id' l).symm.trans (List.map_congr_left fun b _ => (u8T_ok ρ b).symm)
  | chr x _ => rfl
  | app a b iha ihb =>
    rw [app, iha]
    simp only [bts]
    split
    · rename_i p hp
      rw [hp]
      rw [ihb]
      show (p.map (byt ρ) ++ []) ++ _ = (p ++ (bts b).1).map (byt ρ) ++ _
      simp
    · rename_i p r _ hp
      rw [hp]
      show (p.map (byt ρ) ++ (den ρ r).s.data.toList) ++ _ = p.map (byt ρ) ++ (den ρ (.app r b)).s.data.toList
      rw [app, List.append_assoc]
  | _ => rfl
def isZ (x : Tm) : Bool := match isLit x with | some n => sameI n 0 | none => false
theorem isZ_ok {ρ : Env} {x : Tm} (h : isZ x = true) : byt ρ x = 0 := by
  unfold isZ at h
  split at h
  · rename_i n hn
    rw [isLit_eq hn, sameI_eq h]
    rfl
  · cases h
def dropP : List Tm → List Tm
  | x :: y :: l => if isZ x && isZ y then dropP l else x :: y :: dropP l
  | l => l
theorem words_cons (a b : UInt8) (l : List UInt8) : wordsN (a :: b :: l) = a.toNat * 256 + b.toNat + wordsN l := by
  have := wordsN_two (a :: b :: l) (by simp)
  simpa using this
theorem dropP_ok (ρ : Env) (r : List UInt8) : ∀ p : List Tm, wordsN ((dropP p).map (byt ρ) ++ r) = wordsN (p.map (byt ρ) ++ r)
  | x :: y :: l => by
    have ih := dropP_ok ρ r l
    unfold dropP
    split
    · rename_i q
      simp only [Bool.and_eq_true] at q
      rw [ih]
      show _ = wordsN (byt ρ x :: byt ρ y :: (l.map (byt ρ) ++ r))
      rw [words_cons, isZ_ok q.1, isZ_ok q.2]
      simp
    · show wordsN (byt ρ x :: byt ρ y :: ((dropP l).map (byt ρ) ++ r)) = wordsN (byt ρ x :: byt ρ y :: (l.map (byt ρ) ++ r))
      rw [words_cons, words_cons, ih]
  | [x] => rfl
  | [] => rfl
def rebT : List Tm → Tm → Tm
  | [], r => r
  | x :: l, r => mkApp (chrT x) (rebT l r)
theorem rebT_ok (ρ : Env) (r : Tm) : ∀ p : List Tm, (den ρ (rebT p r)).s.data.toList = p.map (byt ρ) ++ (den ρ r).s.data.toList
  | [] => rfl
  | x :: l => by
    show (den ρ (mkApp (chrT x) (rebT l r))).s.data.toList = _
    rw [mkApp_ok, chrT_ok]
    have := rebT_ok ρ r l
    rw [show ∀ a b : ByteArray, (a ++ b).data.toList = a.data.toList ++ b.data.toList from fun a b => by simp, this]
    rfl
theorem words_even (a b : List UInt8) (h : a.length % 2 = 0) : wordsN (a ++ b) = wordsN a + wordsN b := by
  have := wordsN_split (a.length / 2) (a ++ b) (by simp; omega)
  rw [show 2 * (a.length / 2) = a.length from by omega, List.take_left, List.drop_left] at this
  exact this
def evenL (x : Tm) : Bool := match isLit x with | some k => sameI (k % 2) 0 | none => false
/-- Pairs of zeros at even places are left out (c tells how long the pieces are). -/
def nzF (c : Cx) : Nat → Tm → Tm
  | 0, s => s
  | n + 1, s => match bts s with
    | (p, r) => rebT (dropP p) (match r with
      | .app t u => if evenL (mkLen c t) && Nat.beq ((dropP p).length % 2) 0 then mkApp t (nzF c n u) else r
      | _ => r)
theorem nzF_ok {ρ : Env} {c : Cx} (hc : c.ok ρ) : ∀ (n : Nat) (s : Tm), wordsN (den ρ (nzF c n s)).s.data.toList = wordsN (den ρ s).s.data.toList
  | 0, s => rfl
  | n + 1, s => by
    have app : ∀ a b : ByteArray, (a ++ b).data.toList = a.data.toList ++ b.data.toList := fun a b => by simp
    rw [bts_ok ρ s, ← dropP_ok]
    unfold nzF
    rcases hb : bts s with ⟨p, r⟩
    simp only []
    rw [rebT_ok]
    split
    · rename_i t u
      split
      · rename_i q
        simp only [Bool.and_eq_true] at q
        have h2 := Nat.eq_of_beq_eq_true q.2
        have h1 : (den ρ t).s.data.toList.length % 2 = 0 := by
          have h := q.1
          unfold evenL at h
          split at h
          · rename_i k hk
            have e := mkLen_ok hc t
            rw [isLit_eq hk] at e
            have := sameI_eq h
            change k = ((den ρ t).s.size : Int) at e
            have hl : (den ρ t).s.data.toList.length = (den ρ t).s.size := rfl
            omega
          · cases h
        rw [words_even _ _ (by simpa using h2), words_even _ (den ρ (.app t u)).s.data.toList (by simpa using h2), mkApp_ok, app, words_even _ _ h1, nzF_ok hc n u]
        show _ = _ + wordsN ((den ρ t).s ++ (den ρ u).s).data.toList
        rw [app, words_even _ _ h1]
      · rfl
    · rfl
def nz (c : Cx) (s : Tm) : Tm := nzF c 8 s
theorem nz_ok {ρ : Env} {c : Cx} (hc : c.ok ρ) (s : Tm) : sumN (den ρ (nz c s)).s.data.toList = sumN (den ρ s).s.data.toList := by
  unfold nz sumN
  rw [nzF_ok hc]
def sumRes (c : Cx) : List SV → Option (SV × List Bd)
  | [.one (.c (.str s))] => some (.one (.c (.int .u16 (ap1 1 (nz c s)))), [⟨ap1 1 (nz c s), 0, 65535⟩])
  | _ => none
def sumPre (c : Cx) : List SV → Option (List Tm)
  | [.one (.c (.str s))] => some (need c (.le (mkLen c s) (.il 140737488355327)))
  | _ => none
theorem ap_sum {ρ : Env} (hf : ρ.f = stdF) {c : Cx} (hc : c.ok ρ) (s : Tm) : (den ρ (ap1 1 (nz c s))).i = (sumN (den ρ s).s.data.toList : Int) := by
  show (ρ.f 1 (den ρ (nz c s)) _ _).i = _
  rw [hf]
  show ((sumN (den ρ (nz c s)).s.data.toList : Nat) : Int) = _
  rw [nz_ok hc]
def sumSp : Spec := pureSpec 125 sumPre sumRes
theorem sumSp_ok {ρ : Env} (hf : ρ.f = stdF) : sumSp.Ok Try.prog ρ := by
  refine pureSpec_ok fun c xs m v bs hc hpre hres hm => ?_
  match xs, hpre, hres with
  | [.one (.c (.str s))], hpre, hres =>
    injection hpre with hpre
    injection hres with hres
    injection hres with h1 h2
    subst hpre h1 h2
    have hlen := le_of (need_ok hc hm)
    rw [mkLen_ok hc] at hlen
    change _ ≤ (140737488355327 : Int) at hlen
    have hap := ap_sum hf hc s
    have hsm := sumN_le (den ρ s).s.data.toList
    refine ⟨?_, fun β w => ?_⟩
    · intro x hx
      rcases List.mem_cons.1 hx with rfl | hx
      · show (0 : Int) ≤ (den ρ (ap1 1 (nz c s))).i ∧ (den ρ (ap1 1 (nz c s))).i ≤ 65535
        rw [hap]
        omega
      · cases hx
    · refine (ref_Sum (den ρ s).s w (by omega)).mono ?_
      rintro e w' ⟨rfl, hb⟩
      refine ⟨?_, hb⟩
      show _ = Ending.returned (.int .u16 (den ρ (ap1 1 (nz c s))).i)
      rw [hap]
/-- The program's sum.Check. -/
def chkRes (c : Cx) : List SV → Option (SV × List Bd)
  | [.one (.c (.str s))] => some (.one (.c (.int .u16 (mkSub (.il 65535) (ap1 1 (nz c s))))), [⟨ap1 1 (nz c s), 0, 65535⟩])
  | _ => none
def chkSp : Spec := pureSpec 182 sumPre chkRes
theorem chkSp_ok {ρ : Env} (hf : ρ.f = stdF) : chkSp.Ok Try.prog ρ := by
  refine pureSpec_ok fun c xs m v bs hc hpre hres hm => ?_
  match xs, hpre, hres with
  | [.one (.c (.str s))], hpre, hres =>
    injection hpre with hpre
    injection hres with hres
    injection hres with h1 h2
    subst hpre h1 h2
    have hlen := le_of (need_ok hc hm)
    rw [mkLen_ok hc] at hlen
    change _ ≤ (140737488355327 : Int) at hlen
    have hap := ap_sum hf hc s
    have hsm := sumN_le (den ρ s).s.data.toList
    refine ⟨?_, fun β w => ?_⟩
    · intro x hx
      rcases List.mem_cons.1 hx with rfl | hx
      · show (0 : Int) ≤ (den ρ (ap1 1 (nz c s))).i ∧ (den ρ (ap1 1 (nz c s))).i ≤ 65535
        rw [hap]
        omega
      · cases hx
    · refine (sum_Check (den ρ s).s w (by omega)).mono ?_
      rintro e w' ⟨rfl, n, rfl⟩
      refine ⟨?_, ⟨rfl, rfl, rfl, Nat.le_refl _, fun _ _ => rfl⟩⟩
      show _ = Ending.returned (.int .u16 (den ρ (mkSub (.il 65535) (ap1 1 (nz c s)))).i)
      rw [mkSub_ok, hap]
      rfl
/-- A call with just these arguments gives just that. -/
def fixSp (f : FuncId) (ok : List SV → Bool) (v : SV) : Spec := pureSpec f (fun _ xs => if ok xs then some [] else none) (fun _ xs => if ok xs then some (v, []) else none)
theorem fixSp_ok {P : Program} {ρ : Env} {f : FuncId} {ok : List SV → Bool} {v : SV} (h : ∀ xs, ok xs = true → ∀ β w, Calls P f (xs.map (SV.den ρ β)).toArray w fun e w' => e = .returned (v.den ρ β) ∧ Below w.heap.size w w') : (fixSp f ok v).Ok P ρ := by
  refine pureSpec_ok fun c xs m v' bs hc hpre hres hm => ?_
  split at hres
  · rename_i q
    injection hres with hres
    injection hres with h1 h2
    subst h1 h2
    exact ⟨fun x hx => (by cases hx), h xs q⟩
  · cases hres
end Sy
end Go.Proofs.Ythjigajielhkfaa
