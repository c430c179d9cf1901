/- The library's variables as a thing; calls over them. -/
import Derived.Test.YtdkgekmjkindmaaDoorAd3
namespace Go.Proofs.YtdkgekmjkindmaaDoor
open Go.RowKit Go.Lib Sy
set_option linter.unusedVariables false
set_option linter.unusedSimpArgs false
/-- The library's variables. -/
def libT : Thing where
  P := fun w g F _ => g = 0 ∧ (∀ i, F i ↔ i < 8) ∧ LibW w
  keep := fun ⟨h1, h2, h3⟩ hk => ⟨h1, h2, h3.kept fun i hi => hk i ((h2 i).2 hi)⟩
  lt := fun ⟨_, h2, h3⟩ i hi => Nat.lt_of_lt_of_le ((h2 i).1 hi) h3.size
  root := fun ⟨h1, h2, _⟩ => by rw [h1]; exact (h2 0).2 (by decide)
def libB : Bk := ⟨0, 9, [.ptr 1 0], false, none, .own 0 (.cv 0)⟩
def libβ : Bn := fun n => if n = 1 then 255 else 0
theorem bits8 (i : Nat) : (255 : Nat).testBit i = true ↔ i < 8 := by
  rcases Nat.lt_or_ge i 8 with h | h
  · match i, h with
    | 0, _ => decide
    | 1, _ => decide
    | 2, _ => decide
    | 3, _ => decide
    | 4, _ => decide
    | 5, _ => decide
    | 6, _ => decide
    | 7, _ => decide
  · rw [Nat.testBit_lt_two_pow (Nat.lt_of_lt_of_le (show (255 : Nat) < 2 ^ 8 by decide) (Nat.pow_le_pow_right (by decide) h))]
    constructor
    · intro q; cases q
    · intro q; omega
theorem libB_ok {ρ : Env} (ho : ρ.o 0 = libT) {w : World} (h : LibW w) : BkOk ρ libβ w libB := by
  show (ρ.o 0).P w 0 (bitF libβ [.ptr 1 0]) _
  rw [ho]
  exact ⟨rfl, bits8, h⟩
/-- A state that begins a function over the library's variables. -/
def libS (bs : List Bd) (nx : Nat) : Sy.St := ⟨[], [libB], ⟨bs, []⟩, nx⟩
theorem lib_md {ρ : Env} (ho : ρ.o 0 = libT) {w : World} (h : LibW w) {bs : List Bd} (hb : (⟨bs, []⟩ : Cx).ok ρ) (nx : Nat) : Md ρ (fun _ => False) w libβ 2 (libS bs nx) libβ ⟨#[], []⟩ w :=
  Sy.Md.init ⟨libB_ok ho h, trivial⟩ ⟨trivial, trivial⟩ ⟨fun q => (by cases q), trivial⟩ hb rfl
/-- A call that reads the library's variables and makes new blocks only. -/
def libSel (sel : Cx → List SV → Option (List Tm × SV × List Bd)) (s : Sy.St) (xs : List SV) : Option Did :=
  match find 0 s.hp with
  | some ⟨_, _, _, _, none, .own 0 t⟩ => (sel s.cx xs).map fun r => ⟨r.1, [], [], [], r.2.1, r.2.2, none⟩
  | _ => none
def libSp (f : FuncId) (sel : Cx → List SV → Option (List Tm × SV × List Bd)) : Sy.Spec := chgSp f (libSel sel)
theorem libSp_ok {ρ : Env} {f : FuncId} {sel : Cx → List SV → Option (List Tm × SV × List Bd)} (ho : ρ.o 0 = libT)
    (h : ∀ {c : Cx} {xs : List SV} {m : List Tm} {v : SV} {bs : List Bd}, sel c xs = some (m, v, bs) → c.ok ρ → Sy.Met ρ m → ∀ (β : Bn) (w : World), LibW w → Bds ρ bs ∧ Calls Tryd.prog f (xs.map (SV.den ρ β)).toArray w fun e w' => e = .returned (v.den ρ β) ∧ Below w.heap.size w w') : (libSp f sel).Ok Tryd.prog ρ := by
  refine chgSp_ok fun {s xs d} hs hc hm {β w} hb hne => ?_
  unfold libSel at hs
  split at hs
  · rename_i l' ty cs rw' t hfind
    obtain ⟨r, hr, rfl⟩ := Option.map_eq_some_iff.1 hs
    have hme := find_mem hfind
    have hB : (ρ.o 0).P w (β l') (bitF β cs) (den ρ t).c := hb _ hme.1
    rw [ho] at hB
    obtain ⟨b1, b2⟩ := h (show sel s.cx xs = some (r.1, r.2.1, r.2.2) from hr) hc hm β w hB.2.2
    refine ⟨b1, b2.mono ?_⟩
    rintro e w' ⟨rfl, hb'⟩
    exact ⟨β, rfl, Only.of_below hb' _, fun _ _ => rfl, fun _ h => (by cases h), fun _ h => (by cases h), fun _ h => (by cases h), fun _ h => (by cases h), fun _ h => (by cases h), fun _ h => (by cases h)⟩
  · cases hs
/-! Itoa of a small number; Join at the dot. -/
def digS (n : Int) : ByteArray := ⟨(itoa n).toArray⟩
theorem dig_all : ((List.range 256).all fun n => Nat.ble (itoa ((n : Nat) : Int)).length 3) = true := by kernel_rfl
theorem dig_size {n : Int} (h0 : 0 ≤ n) (h1 : n ≤ 255) : (digS n).size ≤ 3 := by
  have := Nat.le_of_ble_eq_true (List.all_eq_true.1 dig_all n.toNat (List.mem_range.2 (by omega)))
  rw [Int.toNat_of_nonneg h0] at this
  show (itoa n).toArray.size ≤ 3
  simpa using this
/-- The string in a row's first cell. -/
def rowS : List Value → ByteArray
  | .string s :: _ => s
  | _ => none8
theorem row_str {r : List Value} (h : kAll [.str] r) : r[0]? = some (.string (rowS r)) := by
  match r, h with
  | [v], ⟨⟨s, e, _⟩, _⟩ => rw [e]; rfl
def joinF (c : List (List Value)) : ByteArray := ⟨(Lib.join ((c.map rowS).map (·.data.toList)) dot.data.toList).toArray⟩
def apI (n : Nat) (t : Tm) : Tm := .ap n t (.il 0) (.il 0)
def itSel (c : Cx) : List SV → Option (List Tm × SV × List Bd)
  | [.one (.c (.int .i64 t))] => some (need c (.le (.il 0) t) ++ need c (.le t (.il 255)), .one (.c (.str (apI 50 t))), [⟨.len (apI 50 t), 0, 3⟩])
  | _ => none
def itSp : Sy.Spec := libSp 21 itSel
theorem itSp_ok {ρ : Env} (ho : ρ.o 0 = libT) (hf : ∀ x y z, ρ.f 50 x y z = dS (digS x.i)) : itSp.Ok Tryd.prog ρ := by
  refine libSp_ok ho fun {c xs m v bs} hs hc hm β w hw => ?_
  unfold itSel at hs
  split at hs
  · rename_i t
    injection hs with hs
    injection hs with h1 hs
    injection hs with h2 h3
    subst h1 h2 h3
    have q1 := need_ok hc hm.l
    have q2 := need_ok hc hm.r
    rw [t_le, i_il] at q1 q2
    refine ⟨fun y hy => ?_, ?_⟩
    · rw [List.mem_singleton] at hy
      subst hy
      show (0 : Int) ≤ (((ρ.f 50 _ _ _).s.size : Nat) : Int) ∧ (((ρ.f 50 _ _ _).s.size : Nat) : Int) ≤ 3
      rw [hf]
      have := dig_size q1 q2
      exact ⟨Int.natCast_nonneg _, by exact_mod_cast this⟩
    · refine (itoa_calls hw (den ρ t).i (by omega) (by omega)).mono ?_
      rintro e w' ⟨rfl, hb⟩
      refine ⟨?_, hb⟩
      show _ = Ending.returned (.string (ρ.f 50 _ _ _).s)
      rw [hf]
      rfl
  · cases hs
def jnSel (s : Sy.St) : List SV → Option Did
  | [x, .one (.c (.str (.sl [46])))] => match tabArg s.cx s.hp 9 [.str] x with
    | some (m, _, t) => some ⟨m ++ (need s.cx (.le (.il 1) (mkTL s.cx t)) ++ need s.cx (.le (.len (apI 51 t)) (.il 140737488355328))), [], [], [], .one (.c (.str (apI 51 t))), [], none⟩
    | none => none
  | _ => none
def jnSp : Sy.Spec := chgSp 22 jnSel
theorem jnSp_ok {ρ : Env} (hf : ∀ x y z, ρ.f 51 x y z = dS (joinF x.c)) : jnSp.Ok Tryd.prog ρ := by
  refine chgSp_ok fun {s xs d} hs hc hm {β w} hb hne => ?_
  unfold jnSel at hs
  split at hs
  · rename_i x
    split at hs
    · rename_i m ol t hta
      injection hs with hs
      subst hs
      have hM : Md ρ (fun _ => True) w β 0 s β ⟨(s.tm.map (SV.den ρ β)).toArray, []⟩ w := ⟨rfl, hb, hne, fun b _ _ _ g _ => .inl trivial, hc, Only.refl _ _, fun _ _ => rfl⟩
      obtain ⟨g, cap, e1, hT, hl, hcap⟩ := tabArg_ok hM hc hta hm.l
      have q0 := need_ok hc hm.r.l
      have q := need_ok hc hm.r.r
      rw [t_le, i_il] at q q0
      rw [mkTL_ok hc] at q0
      change (((ρ.f 51 _ _ _).s.size : Nat) : Int) ≤ 140737488355328 at q
      rw [hf] at q
      refine ⟨fun y hy => (by cases hy), ?_⟩
      show Calls Tryd.prog _ #[x.den ρ β, .string dot] w _
      have hc0 : cap ≠ 0 := by have := hT.len; omega
      obtain ⟨b, _, _, _, _⟩ := hcap hc0
      have hlt : g < w.heap.size := by obtain ⟨cur, e, _⟩ := hT.row hc0; exact (Array.getElem?_eq_some_iff.1 e).1
      rw [e1, show sltV g cap (den ρ t).c.length = .slice (some ⟨g, 0, none⟩) ((den ρ t).c.map rowS).length cap from by rw [List.length_map]; exact if_neg hc0]
      refine (join_calls g cap ((den ρ t).c.map rowS) ?_ hlt (by rw [List.length_map]; exact hl) (by rw [List.length_map]; exact hT.len) ?_).mono ?_
      · intro j y hy
        rw [List.getElem?_map] at hy
        obtain ⟨r, hr, rfl⟩ := Option.map_eq_some_iff.1 hy
        have hk := hT.ok r (List.mem_of_getElem? hr)
        obtain ⟨j1, _⟩ := List.getElem?_eq_some_iff.1 hr
        have hv : ((den ρ t).c.getD j [])[0]? = some (.string (rowS r)) := by
          rw [List.getD_eq_getElem?_getD, hr]
          exact row_str hk
        have := hT.cell j1 hv
        rw [show 0 + j = j * [Kd.str].length + 0 from by simp]
        exact this
      · change (((joinF (den ρ t).c).size : Nat) : Int) ≤ 140737488355328 at q
        have : (joinF (den ρ t).c).size ≤ 140737488355328 := by omega
        rwa [show (joinF (den ρ t).c).size = (Lib.join (((den ρ t).c.map rowS).map (·.data.toList)) dot.data.toList).length from List.size_toArray] at this
      · rintro e w' ⟨rfl, hb'⟩
        refine ⟨β, ?_, Only.of_below hb' _, fun _ _ => rfl, fun _ h => (by cases h), fun _ h => (by cases h), fun _ h => (by cases h), fun _ h => (by cases h), fun _ h => (by cases h), fun _ h => (by cases h)⟩
        show _ = Ending.returned (.string (ρ.f 51 _ _ _).s)
        rw [hf]
        rfl
    · cases hs
  · cases hs
end Go.Proofs.YtdkgekmjkindmaaDoor
