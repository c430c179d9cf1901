/- The reference's queue of what comes in: the first gap. -/
import Derived.Test.YtnjpoidpfcfbeaaSyCh
namespace Go.Proofs.Ytnjpoidpfcfbeaa
open Go.RowKit Sy
set_option linter.unusedVariables false
set_option linter.unusedSimpArgs false

/-! Which places have a byte. -/
def inLv : List Kd := [.int .i64, .int .u8]
def kR (p : Int) : List Value := [.int .i64 p]
def inM (L : List (List Value)) (p : Int) : Option Nat := fM 1 (kR p) L
def GoodM (L : List (List Value)) : Prop := ∀ r ∈ L, kAll inLv r
def keyI : List Value → Int
  | .int _ k :: _ => k
  | _ => 0
/-- Behind all keys. -/
def keyMax : List (List Value) → Int
  | [] => 0
  | r :: l => max (keyI r + 1) (keyMax l)
theorem keyMax_nonneg : ∀ L : List (List Value), 0 ≤ keyMax L
  | [] => Int.le_refl 0
  | r :: l => by
    have := keyMax_nonneg l
    unfold keyMax
    omega
theorem mixed (L : List (List Value)) (p : Int) : 0 ≤ mIx 1 (kR p) L ↔ inM L p ≠ none := by
  unfold mIx inM
  cases fM 1 (kR p) L with
  | none => simp
  | some j => simp
theorem row_form {r : List Value} (h : kAll inLv r) : ∃ k b : Int, r = [.int .i64 k, .int .u8 b] ∧ (Lit.int .i64 k).wf = true ∧ (Lit.int .u8 b).wf = true := by
  rcases r with _ | ⟨x, _ | ⟨y, _ | ⟨z, r⟩⟩⟩
  · exact h.elim
  · exact h.2.elim
  · obtain ⟨⟨k, hx, hk⟩, ⟨b, hy, hb⟩, _⟩ := h
    exact ⟨k, b, by rw [hx, hy], hk, hb⟩
  · exact h.2.2.elim
theorem key_same (k b p : Int) : sqR (([.int .i64 k, .int .u8 b] : List Value).take 1) (kR p) = decide (k = p) := by
  show (Nat.beq (kN .i64) (kN .i64) && sqI k p && true) = _
  rw [Nat.beq_refl, Bool.true_and, Bool.and_true]
  by_cases h : k = p
  · rw [h, sqI_iff.2 rfl]; simp
  · rw [Bool.eq_false_iff.2 fun e => h (sqI_iff.1 e)]; simp [h]
theorem inM_cons (k b p : Int) (l : List (List Value)) : inM ([.int .i64 k, .int .u8 b] :: l) p = if k = p then some 0 else (inM l p).map (· + 1) := by
  unfold inM
  rw [fM, key_same]
  simp
theorem inM_lt : ∀ {L : List (List Value)} {p : Int}, GoodM L → inM L p ≠ none → p < keyMax L
  | [], p, _, h => absurd rfl h
  | r :: l, p, hg, h => by
    obtain ⟨k, b, rfl, _, _⟩ := row_form (hg r (List.mem_cons_self ..))
    rw [inM_cons] at h
    show p < max (k + 1) (keyMax l)
    split at h
    · omega
    · have : inM l p ≠ none := fun e => h (by rw [e]; rfl)
      have := inM_lt (fun r hr => hg r (List.mem_cons_of_mem _ hr)) this
      omega
/-- The first gap from r on. -/
def gapN (L : List (List Value)) : Nat → Int → Int
  | 0, r => r
  | n + 1, r => match inM L r with
    | none => r
    | some _ => gapN L n (r + 1)
def gap (L : List (List Value)) (r : Int) : Int := gapN L (keyMax L - r).toNat r
theorem gapN_spec {L : List (List Value)} (hg : GoodM L) : ∀ (n : Nat) (r : Int), keyMax L - r ≤ (n : Int) → r ≤ gapN L n r ∧ inM L (gapN L n r) = none ∧ ∀ p, r ≤ p → p < gapN L n r → inM L p ≠ none
  | 0, r, h => by
    refine ⟨Int.le_refl r, ?_, fun p h1 h2 => ?_⟩
    · show inM L r = none
      cases q : inM L r with
      | none => rfl
      | some j =>
        have := inM_lt hg (show inM L r ≠ none by rw [q]; simp)
        omega
    · have h2 : p < r := h2
      omega
  | n + 1, r, h => by
    unfold gapN
    cases q : inM L r with
    | none => exact ⟨Int.le_refl r, q, fun p h1 h2 => by have h2 : p < r := h2; omega⟩
    | some j =>
      obtain ⟨h1, h2, h3⟩ := gapN_spec hg n (r + 1) (by omega)
      refine ⟨show r ≤ gapN L n (r + 1) by omega, h2, fun p hp hp2 => ?_⟩
      by_cases e : p = r
      · rw [e, q]; simp
      · exact h3 p (by omega) hp2
theorem gap_spec {L : List (List Value)} (hg : GoodM L) (r : Int) : r ≤ gap L r ∧ inM L (gap L r) = none ∧ ∀ p, r ≤ p → p < gap L r → inM L p ≠ none := gapN_spec hg _ r (by omega)
theorem gap_eq {L : List (List Value)} (hg : GoodM L) {r e : Int} (h1 : r ≤ e) (h2 : inM L e = none) (h3 : ∀ p, r ≤ p → p < e → inM L p ≠ none) : gap L r = e := by
  obtain ⟨g1, g2, g3⟩ := gap_spec hg r
  rcases Int.lt_trichotomy (gap L r) e with h | h | h
  · exact absurd g2 (h3 _ g1 h)
  · exact h
  · exact absurd h2 (g3 _ h1 h)
theorem gap_le {L : List (List Value)} (hg : GoodM L) (r : Int) : gap L r ≤ max r (keyMax L) := by
  obtain ⟨g1, g2, g3⟩ := gap_spec hg r
  by_cases h : gap L r ≤ r
  · omega
  · have := inM_lt hg (g3 (gap L r - 1) (by omega) (by omega))
    omega

/-! Its walk. -/
def inT (l : Nat) (rw : Bool) (t : Tm) : Bk := ⟨l, 0, [], rw, none, .mp [.int .i64] false (.int .u8) t⟩
def inO (l m : Nat) (rw : Bool) (r f : Tm) : Bk := ⟨l, 108, [.map m, .int .i64 r, .int .i64 f], rw, none, .no⟩
def byP : List Nat := [1, 1, 2]
def B61 (t : Tm) : Bd := ⟨t, 0, 2305843009213693952⟩
def byBs : List Bd := [B61 (.iv 0)]
def bySt : Sy.St := ⟨[], [inO 0 2 false (.iv 0) (.iv 1), inT 2 false (.cv 0)], ⟨byBs, []⟩, 4⟩
def by0 (P : Program) (fn : Func) : Rs := run P [] 10 400 4 (.code (pre byP (bodyOf fn))) (enterS fn [.one (.c (.ptr 0 0))] bySt)
def byT (P : Program) (fn : Func) : Sy.St := tplS (lfAt (by0 P fn) 0) (lpBody (Sy.sub byP (bodyOf fn))) [(3, .one (.c (.int .i64 (.iv 2))))] [] ⟨B61 (.iv 2) :: byBs, []⟩ 30
def by1 (P : Program) (fn : Func) : Rs := run P [] 10 400 4 (.code (lpBody (Sy.sub byP (bodyOf fn)))) (byT P fn)
def byC : Tm := .le (.il 0) (mapIx 1 (.cv 0) (.tb (.cons (.int .i64)) (.iv 2) trow (.il 0)))
set_option maxRecDepth 100000 in
theorem by_run0 : shR 4 none (by0 Try.prog Try.f65) = some [.out 0 .normal []] := by kernel_rfl
set_option maxRecDepth 100000 in
theorem by_match : (matchS 4 (byT Try.prog Try.f65) (lfAt (by0 Try.prog Try.f65) 0)).map noU = some [.i 2 (.iv 0)] := by kernel_rfl
set_option maxRecDepth 100000 in
theorem by_run1 : shR 4 (some (byT Try.prog Try.f65)) (by1 Try.prog Try.f65) = some
    [.out 0 .ret [.not byC], .back [.i 2 (.add (.iv 2) (.il 1))] [byC]] := by kernel_rfl
set_option maxRecDepth 100000 in
theorem by_loop : Code.loop (lpBody (Sy.sub byP (bodyOf Try.f65))) = Sy.sub byP (bodyOf Try.f65) := by kernel_rfl
set_option maxRecDepth 100000 in
theorem by_ret : retS Try.prog (lfAt (by1 Try.prog Try.f65) 0) Try.f65.results.toList = some (.one (.c (.int .i64 (.iv 2)))) := by kernel_rfl
set_option maxRecDepth 100000 in
theorem by_cx : (byT Try.prog Try.f65).cx = ⟨B61 (.iv 2) :: byBs, []⟩ := by kernel_rfl
theorem byC_ok {ρ : Env} : (den ρ byC).b = true ↔ inM (ρ.c 0) (ρ.i 2) ≠ none := by
  rw [byC, t_le, mapIx_den (k := kR (ρ.i 2)) rfl]
  exact mixed _ _
structure ByI (L : List (List Value)) (read : Int) (ρ : Env) : Prop where
  g : ρ.good
  c0 : ρ.c 0 = L
  i0 : ρ.i 0 = read
  le : read ≤ ρ.i 2
  up : ρ.i 2 ≤ gap L read
def inCells (gm : Nat) (read fin : Int) : List Value := [.map (some gm), .int .i64 read, .int .i64 fin]
set_option maxRecDepth 100000 in
theorem by_calls {w : World} {g gm : Nat} {L : List (List Value)} {read fin : Int} (hO : Blk w g 108 (inCells gm read fin)) (hT : MapT w gm [.int .i64] false (.int .u8) L) (hne : g ≠ gm) (h0 : 0 ≤ read) (h1 : read ≤ 2305843009213693952) (hk : keyMax L ≤ 2305843009213693952) :
    Calls Try.prog 65 #[.pointer (some ⟨g, 0, none⟩)] w (RetP fun v w' => v = .int .i64 (gap L read) ∧ Below w.heap.size w w') := by
  have hg : GoodM L := hT.ok
  have hgl := gap_le hg read
  obtain ⟨g1, g2, g3⟩ := gap_spec hg read
  let ρ0 : Env := { mkEnv0 [read, fin] [] [] [] with c := fun _ => L }
  let β0 : Bn := fun n => if n = 0 then g else gm
  have hM0 : Md ρ0 (fun _ => False) w β0 4 bySt β0 ⟨#[], []⟩ w := Sy.Md.init ⟨hO, hT, trivial⟩ ⟨⟨fun _ _ => hne, trivial⟩, trivial, trivial⟩ ⟨fun h => (by cases h), fun h => (by cases h), trivial⟩ (cxP ⟨⟨h0, h1⟩, trivial⟩ trivial) rfl
  refine calls_pre (B := ⟨ρ0, fun _ => False, w, β0, 4⟩) (sp := []) (p := byP) (xs := [.one (.c (.ptr 0 0))]) (s := bySt) (r := by0 Try.prog Try.f65) (fun i => rfl) (fun q hq => by cases hq) rfl Try.func65 rfl rfl by_run0 hM0 ⟨?_, trivial⟩ rfl
  intro _ β a w1 hM1
  show (Sy.sub byP (bodyOf Try.f65)).wp Try.prog _ a w1
  rw [← by_loop]
  have cx : ∀ ρ, ByI L read ρ → (byT Try.prog Try.f65).cx.ok ρ := fun ρ I => by
    rw [by_cx]
    have := I.i0
    have := I.le
    have := I.up
    exact cxP ⟨⟨show 0 ≤ ρ.i 2 by omega, show ρ.i 2 ≤ 2305843009213693952 by omega⟩, ⟨show 0 ≤ ρ.i 0 by omega, show ρ.i 0 ≤ 2305843009213693952 by omega⟩, trivial⟩ trivial
  have hI1 : ∀ u, ByI L read { ρ0.sub β [.i 2 (.iv 0)] with u := u } := fun u => ⟨fun i => rfl, rfl, rfl, Int.le_refl _, g1⟩
  obtain ⟨u, β', hM2⟩ := Sy.Md.enter hM1 by_match fun u => cx _ (hI1 u)
  refine loop_wp (w0 := w) (r := by1 Try.prog Try.f65) rfl by_run1 (ByI L read) (fun ρ => (gap L read - ρ.i 2).toNat) (fun ρ I => I.g) (fun ρ I q hq => by cases hq) cx ?_ (hI1 u) hM2
  intro ρ I
  have hle := I.le
  have hup := I.up
  refine ⟨?_, ?_, trivial⟩
  · intro hpc β a w' hM
    have hn : inM L (ρ.i 2) = none := by
      have h : ¬ (den ρ byC).b = true := by
        have := hpc.1
        rwa [t_not] at this
      rw [byC_ok, I.c0] at h
      exact Classical.not_not.1 h
    refine ctx_ret byP (bodyOf Try.f65) _ (ret_post (B := ⟨ρ, fun _ => False, w, β0, 4⟩) hM by_ret ⟨?_, Sy.Only.below_all hM.only⟩)
    show Value.int .i64 (ρ.i 2) = _
    rcases Int.lt_or_le (ρ.i 2) (gap L read) with h | h
    · exact absurd hn (g3 _ hle h)
    · rw [show ρ.i 2 = gap L read from by omega]
  · intro hpc β u
    have hn : inM L (ρ.i 2) ≠ none := by
      have h : (den ρ byC).b = true := hpc.1
      rw [byC_ok, I.c0] at h
      exact h
    have hlt : ρ.i 2 < gap L read := by
      rcases Int.lt_or_le (ρ.i 2) (gap L read) with h | h
      · exact h
      · exact absurd g2 (by rw [show gap L read = ρ.i 2 from by omega]; exact hn)
    refine ⟨⟨I.g, I.c0, I.i0, ?_, ?_⟩, ?_⟩
    · show read ≤ ρ.i 2 + 1; omega
    · show ρ.i 2 + 1 ≤ _; omega
    · show (gap L read - (ρ.i 2 + 1)).toNat < (gap L read - ρ.i 2).toNat; omega
end Go.Proofs.Ytnjpoidpfcfbeaa
