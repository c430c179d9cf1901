/- The program's queue of what comes in: behind. -/
import Derived.Test.YtnjpoidpfcfbeaaIq6
namespace Go.Proofs.Ytnjpoidpfcfbeaa
open Go.RowKit Sy
set_option linter.unusedVariables false
set_option linter.unusedSimpArgs false

def hasB (H : List (List Value)) (q : Int) : Bool := (getV .bool ((H.getD (q % 2048).toNat []).getD 0 (.bool false))).b
def behN (H : List (List Value)) : Nat → Int → Bool
  | 0, _ => false
  | n + 1, p => hasB H p || behN H n (p + 1)
def beh (H : List (List Value)) (p e : Int) : Bool := behN H (e - p).toNat p
theorem behN_iff {H : List (List Value)} : ∀ (n : Nat) (p : Int), behN H n p = true ↔ ∃ q, p ≤ q ∧ q < p + n ∧ hasB H q = true
  | 0, p => ⟨fun h => (by cases h), fun ⟨q, h1, h2, _⟩ => (by omega)⟩
  | n + 1, p => by
    show (hasB H p || behN H n (p + 1)) = true ↔ _
    rw [Bool.or_eq_true, behN_iff n (p + 1)]
    constructor
    · rintro (h | ⟨q, h1, h2, h3⟩)
      · exact ⟨p, Int.le_refl p, by omega, h⟩
      · exact ⟨q, by omega, by omega, h3⟩
    · rintro ⟨q, h1, h2, h3⟩
      by_cases e : q = p
      · exact .inl (by rw [← e]; exact h3)
      · exact .inr ⟨q, by omega, by omega, h3⟩
theorem beh_iff {H : List (List Value)} {p e : Int} : beh H p e = true ↔ ∃ q, p ≤ q ∧ q < e ∧ hasB H q = true := by
  unfold beh
  rw [behN_iff]
  constructor
  · rintro ⟨q, h1, h2, h3⟩; exact ⟨q, h1, by omega, h3⟩
  · rintro ⟨q, h1, h2, h3⟩; exact ⟨q, h1, by omega, h3⟩
/-- The queue's block. -/
def quO (l : Nat) (rw : Bool) (R H r n f o : Tm) : Bk := ⟨l, 105, [.int .i64 r, .int .i64 n, .int .i64 f, .bool o], rw, none, .arr [⟨0, [.int .u8], 2048, R⟩, ⟨0, [.bool], 2048, H⟩]⟩
/-- The queue's cells. -/
def quCells (R H : List (List Value)) (read next fin : Int) (over : Bool) : List Value := R.flatten ++ (H.flatten ++ [.int .i64 read, .int .i64 next, .int .i64 fin, .bool over])
structure QuOk (R H : List (List Value)) : Prop where
  rl : R.length = 2048
  rk : ∀ r ∈ R, kAll [.int .u8] r
  hl : H.length = 2048
  hk : ∀ r ∈ H, kAll [.bool] r
theorem quO_ok {ρ : Env} {β : Bn} {w : World} {l : Nat} {rw : Bool} {R H r n f o : Tm} : BkOk ρ β w (quO l rw R H r n f o) ↔ Blk w (β l) 105 (quCells (den ρ R).c (den ρ H).c (den ρ r).i (den ρ n).i (den ρ f).i (den ρ o).b) ∧ QuOk (den ρ R).c (den ρ H).c := by
  constructor
  · rintro ⟨h1, h2⟩
    have a := h2 ⟨0, [.int .u8], 2048, R⟩ (List.mem_cons_self ..)
    have b := h2 ⟨0, [.bool], 2048, H⟩ (List.mem_cons_of_mem _ (List.mem_cons_self ..))
    exact ⟨h1, ⟨a.1, a.2, b.1, b.2⟩⟩
  · rintro ⟨h1, h2⟩
    refine ⟨h1, fun x hx => ?_⟩
    rcases List.mem_cons.1 hx with rfl | hx
    · exact ⟨h2.rl, h2.rk⟩
    · rw [List.mem_singleton.1 hx]
      exact ⟨h2.hl, h2.hk⟩
def beP : List Nat := [1, 0, 2]
def beBs : List Bd := [B61 (.iv 4), B61 (.iv 5)]
def beSt : Sy.St := ⟨[], [quO 0 false (.cv 0) (.cv 1) (.iv 0) (.iv 1) (.iv 2) (.bv 0)], ⟨beBs, []⟩, 4⟩
def be0 (P : Program) (fn : Func) : Rs := run P [] 10 400 4 (.code (pre beP (bodyOf fn))) (enterS fn [.one (.c (.ptr 0 0)), iI 4, iI 5] beSt)
def beT (P : Program) (fn : Func) : Sy.St := tplK (lfAt (be0 P fn) 0) [0, 2] [(1, iI 6)] [] ⟨B61 (.iv 6) :: beBs, []⟩ 10
def be1 (P : Program) (fn : Func) : Rs := run P [] 10 400 4 (.code (lpBody (Sy.sub beP (bodyOf fn)))) (beT P fn)
def hsT (t x : Tm) : Tm := .tb (.get .bool 0) t (.md x (.il 2048)) (.il 0)
theorem hs_den {ρ : Env} (t x : Tm) : (den ρ (hsT t x)).b = hasB (den ρ t).c (den ρ x).i := rfl
set_option maxRecDepth 100000 in
theorem be_run0 : shR 4 none (be0 Try.prog Try.f62) = some [.out 0 .normal []] := by kernel_rfl
set_option maxRecDepth 100000 in
theorem be_match : (matchS 4 (beT Try.prog Try.f62) (lfAt (be0 Try.prog Try.f62) 0)).map noU = some [.i 6 (.iv 4)] := by kernel_rfl
set_option maxRecDepth 100000 in
theorem be_run1 : shR 4 (some (beT Try.prog Try.f62)) (be1 Try.prog Try.f62) = some [.out 0 .ret [hsT (.cv 1) (.iv 6), .lt (.iv 6) (.iv 5)], .back [.i 6 (.add (.iv 6) (.il 1))] [.not (hsT (.cv 1) (.iv 6)), .lt (.iv 6) (.iv 5)], .out 2 (.exit 0) [.not (.lt (.iv 6) (.iv 5))]] := by kernel_rfl
set_option maxRecDepth 100000 in
theorem be_loop : Code.loop (lpBody (Sy.sub beP (bodyOf Try.f62))) = Sy.sub beP (bodyOf Try.f62) := by kernel_rfl
set_option maxRecDepth 100000 in
theorem be_cx : (beT Try.prog Try.f62).cx = ⟨B61 (.iv 6) :: beBs, []⟩ := by kernel_rfl
set_option maxRecDepth 100000 in
theorem be_ret : retS Try.prog (lfAt (be1 Try.prog Try.f62) 0) Try.f62.results.toList = some (.one (.c (.bool (.bl true)))) := by kernel_rfl
set_option maxRecDepth 100000 in
theorem be_fin : smR Try.prog Try.f62 4 (run Try.prog [] 10 400 4 (.code (aft (.exit 0) beP (bodyOf Try.f62))) (lfAt (be1 Try.prog Try.f62) 2)) = some [.ret (.one (.c (.bool (.bl false)))) beSt.hp [.not (.lt (.iv 6) (.iv 5))]] := by kernel_rfl
structure BeI (H : List (List Value)) (p e : Int) (ρ : Env) : Prop where
  g : ρ.good
  c1 : ρ.c 1 = H
  i4 : ρ.i 4 = p
  i5 : ρ.i 5 = e
  le : p ≤ ρ.i 6
  up : ρ.i 6 ≤ max p e
  no : ∀ q, p ≤ q → q < ρ.i 6 → hasB H q = false
set_option maxRecDepth 100000 in
theorem be_calls {w : World} {g : Nat} {R H : List (List Value)} {read next fin p e : Int} {over : Bool} (hO : Blk w g 105 (quCells R H read next fin over)) (hQ : QuOk R H) (p0 : 0 ≤ p) (p1 : p ≤ 2305843009213693952) (e0 : 0 ≤ e) (e1 : e ≤ 2305843009213693952) :
    Calls Try.prog 62 #[.pointer (some ⟨g, 0, none⟩), .int .i64 p, .int .i64 e] w (RetP fun v w' => v = .bool (beh H p e) ∧ Below w.heap.size w w') := by
  let ρ0 : Env := ⟨fun n => if n = 0 then read else if n = 1 then next else if n = 2 then fin else if n = 4 then p else e, fun _ => over, fun _ => none8, inF, fun _ => .bool false, fun _ => .bool false, fun n => if n = 0 then R else H⟩
  have hM0 : Md ρ0 (fun _ => False) w (fun _ => g) 4 beSt (fun _ => g) ⟨#[], []⟩ w := Sy.Md.init ⟨quO_ok.2 ⟨hO, hQ⟩, trivial⟩ ⟨trivial, trivial⟩ ⟨fun h => (by cases h), trivial⟩ (cxP ⟨⟨p0, p1⟩, ⟨e0, e1⟩, trivial⟩ trivial) rfl
  refine calls_pre (B := ⟨ρ0, fun _ => False, w, fun _ => g, 4⟩) (sp := []) (p := beP) (xs := [.one (.c (.ptr 0 0)), iI 4, iI 5]) (s := beSt) (r := be0 Try.prog Try.f62) (fun i => rfl) (fun q hq => by cases hq) rfl Try.func62 rfl rfl be_run0 hM0 ⟨?_, trivial⟩ rfl
  intro _ β a w1 hM1
  show (Sy.sub beP (bodyOf Try.f62)).wp Try.prog _ a w1
  rw [← be_loop]
  have cx : ∀ ρ, BeI H p e ρ → (beT Try.prog Try.f62).cx.ok ρ := fun ρ I => by
    rw [be_cx]
    have := I.i4
    have := I.i5
    have := I.le
    have := I.up
    exact cxP ⟨⟨show 0 ≤ ρ.i 6 by omega, show ρ.i 6 ≤ 2305843009213693952 by omega⟩, ⟨show 0 ≤ ρ.i 4 by omega, show ρ.i 4 ≤ 2305843009213693952 by omega⟩, ⟨show 0 ≤ ρ.i 5 by omega, show ρ.i 5 ≤ 2305843009213693952 by omega⟩, trivial⟩ trivial
  have hI1 : ∀ u, BeI H p e { ρ0.sub β [.i 6 (.iv 4)] with u := u } := fun u => ⟨fun i => rfl, rfl, rfl, rfl, Int.le_refl _, (by show p ≤ max p e; omega), fun q h1 h2 => by have h2 : q < p := h2; omega⟩
  obtain ⟨u, β', hM2⟩ := Sy.Md.enter hM1 be_match fun u => cx _ (hI1 u)
  refine loop_wp (w0 := w) (r := be1 Try.prog Try.f62) rfl be_run1 (BeI H p e) (fun ρ => (e - ρ.i 6).toNat) (fun ρ I => I.g) (fun ρ I q hq => by cases hq) cx ?_ (hI1 u) hM2
  intro ρ I
  have i5 := I.i5
  have hle := I.le
  refine ⟨?_, ?_, ?_, trivial⟩
  all_goals
    intro hpc
    replace hpc : pcs ρ _ := hpc
    simp only [pcs, t_lt, t_not, i_iv, hs_den, c_cv, I.c1, i5, and_true] at hpc
  · intro β a w' hM
    refine ctx_ret beP (bodyOf Try.f62) _ (ret_post (B := ⟨ρ, fun _ => False, w, fun _ => g, 4⟩) hM be_ret ⟨?_, Sy.Only.below_all hM.only⟩)
    show Value.bool true = _
    rw [beh_iff.2 ⟨ρ.i 6, hle, hpc.2, hpc.1⟩]
  · intro β u
    refine ⟨⟨I.g, I.c1, I.i4, I.i5, ?_, ?_, ?_⟩, ?_⟩
    · show p ≤ ρ.i 6 + 1; omega
    · show ρ.i 6 + 1 ≤ _; omega
    · intro q h1 h2
      have h2 : q < ρ.i 6 + 1 := h2
      by_cases e' : q = ρ.i 6
      · rw [e']
        simpa using hpc.1
      · exact I.no q h1 (by omega)
    · show (e - (ρ.i 6 + 1)).toNat < (e - ρ.i 6).toNat; omega
  · intro β a w' hM
    refine aft_fin (B := ⟨ρ, fun _ => False, w, fun _ => g, 4⟩) I.g (fun q hq => by cases hq) rfl (.exit 0) be_fin ⟨?_, trivial⟩ hM
    intro _ β2 w2 hH
    refine ⟨?_, Sy.Only.below_all hH.only⟩
    show Value.bool false = _
    cases h : beh H p e with
    | false => rfl
    | true =>
      obtain ⟨q, h1, h2, h3⟩ := beh_iff.1 h
      rw [I.no q h1 (by omega)] at h3
      cases h3
/-- The queue behind a letter: what it holds. -/
def ownQu (s : Sy.St) (l : Nat) : Option (Tm × Tm × Tm × Tm × Tm × Tm) :=
  match find l s.hp with
  | some b => match b.str, b.x, b.cs with
    | none, .arr [⟨0, [.int .u8], 2048, R⟩, ⟨0, [.bool], 2048, H⟩], [.int .i64 r, .int .i64 n, .int .i64 f, .bool o] => if Nat.beq b.ty 105 then some (R, H, r, n, f, o) else none
    | _, _, _ => none
  | none => none
structure OwnQu (ρ : Env) (β : Bn) (w : World) (s : Sy.St) (l : Nat) (R H r n f o : Tm) : Prop where
  blk : Blk w (β l) 105 (quCells (den ρ R).c (den ρ H).c (den ρ r).i (den ρ n).i (den ρ f).i (den ρ o).b)
  ok : QuOk (den ρ R).c (den ρ H).c
  bl : ∃ b ∈ s.hp, b.l = l ∧ b.nilable = false
theorem ownQu_ok {ρ : Env} {β : Bn} {w : World} {s : Sy.St} {l : Nat} {R H r n f o : Tm} (h : ownQu s l = some (R, H, r, n, f, o)) (hb : ∀ b ∈ s.hp, BkOk ρ β w b) : OwnQu ρ β w s l R H r n f o := by
  unfold ownQu at h
  split at h
  · rename_i b hf
    obtain ⟨hbm, hbl⟩ := find_mem hf
    split at h
    · rename_i R' H' r' n' f' o' hs hx hcs
      split at h
      · rename_i qt
        have qe := Nat.eq_of_beq_eq_true qt
        injection h with h
        injection h with e1 h
        injection h with e2 h
        injection h with e3 h
        injection h with e4 h
        injection h with e5 e6
        subst e1 e2 e3 e4 e5 e6
        have h1 := hb b hbm
        have eb : b = quO l b.rw R' H' r' n' f' o' := by
          obtain ⟨bl, bty, bcs, brw, bstr, bx⟩ := b
          simp only at hs hx hcs hbl qe
          subst hs hx hcs hbl
          show (⟨bl, bty, _, brw, none, _⟩ : Bk) = ⟨bl, 105, _, brw, none, _⟩
          rw [qe]
        rw [eb] at h1
        obtain ⟨h2, h3⟩ := quO_ok.1 h1
        exact ⟨h2, h3, b, hbm, hbl, by rw [eb]; rfl⟩
      · cases h
    · cases h
  · cases h
def beSel (s : Sy.St) : List SV → Option Did
  | [.one (.c (.ptr l 0)), .one (.c (.int .i64 p)), .one (.c (.int .i64 e))] => match ownQu s l with
    | some (R, H, r, n, f, o) => some ⟨need s.cx (.le (.il 0) p) ++ (need s.cx (.le p L61) ++ (need s.cx (.le (.il 0) e) ++ need s.cx (.le e L61))), [], [], [], .one (.c (.bool (.ap 32 H p e))), []⟩
    | none => none
  | _ => none
def beSp : Sy.Spec := chgSp 62 beSel
theorem beSp_ok {ρ : Env} (hf : ∀ x y z, ρ.f 32 x y z = dB (beh x.c y.i z.i)) : beSp.Ok Try.prog ρ := by
  refine chgSp_ok fun {s xs d} hs hc hm {β w} hb hne => ?_
  unfold beSel at hs
  split at hs
  · rename_i l p e
    split at hs
    · rename_i R H r n f o ho
      injection hs with hs
      subst hs
      have O := ownQu_ok (β := β) (w := w) ho hb
      have m1 := le_of (need_ok hc hm.l)
      have m2 := le_of (need_ok hc hm.r.l)
      have m3 := le_of (need_ok hc hm.r.r.l)
      have m4 := le_of (need_ok hc hm.r.r.r)
      refine ⟨fun x hx => (by cases hx), ?_⟩
      refine (be_calls O.blk O.ok m1 m2 m3 m4).mono ?_
      rintro e' w' ⟨v, rfl, rfl, hbel⟩
      refine ⟨β, ?_, Sy.Chg.none_ hbel⟩
      show _ = Ending.returned (.bool (ρ.f 32 (den ρ H) (den ρ p) (den ρ e)).b)
      rw [hf]
      rfl
    · cases hs
  · cases hs
end Go.Proofs.Ytnjpoidpfcfbeaa
