/- The pollers' calls in letters. -/
import Derived.Test.YtnjpoidpfcfbeaaPollF
namespace Go.Proofs.Ytnjpoidpfcfbeaa
open Go.RowKit Sy
set_option linter.unusedVariables false
set_option linter.unusedSimpArgs false

/-! New. -/
set_option maxRecDepth 100000 in
theorem nw_run : smR Try.prog Try.f35 4 (run Try.prog [] 10 400 4 (.code (bodyOf Try.f35)) (enterS Try.f35 [] ⟨[], [], ⟨[], []⟩, 4⟩)) = some [.ret (.one (.c (.ptr 4 0))) [⟨4, 134, [.nslc], true, none, .no⟩] []] := by kernel_rfl
theorem nw_calls (w : World) : Calls Try.prog 35 #[] w (RetP fun v w' => ∃ g, v = .pointer (some ⟨g, 0, none⟩) ∧ w.heap.size ≤ g ∧ Pol w' g 0 0 [] [] ∧ Below w.heap.size w w') := by
  have hM : Md (mkEnv0 [] [] [] []) (fun _ => False) w (fun _ => 0) 4 ⟨[], [], ⟨[], []⟩, 4⟩ (fun _ => 0) ⟨#[], []⟩ w := Sy.Md.start ⟨fun _ h => (by cases h), fun _ h => (by cases h)⟩
  refine (calls_sm (B := ⟨mkEnv0 [] [] [] [], fun _ => False, w, fun _ => 0, 4⟩) (sp := []) (fun i => rfl) (fun q hq => by cases hq) 10 400 Try.func35 rfl [] ⟨[], [], ⟨[], []⟩, 4⟩ _ 4 rfl nw_run hM (R := fun v w' => ∃ g, v = .pointer (some ⟨g, 0, none⟩) ∧ w.heap.size ≤ g ∧ Pol w' g 0 0 [] [] ∧ Below w.heap.size w w') ⟨?_, trivial⟩ rfl)
  intro _ β w2 hH
  have hb : (⟨4, 134, [.nslc], true, none, .no⟩ : Bk) ∈ [(⟨4, 134, [.nslc], true, none, .no⟩ : Bk)] := List.mem_cons_self ..
  refine ⟨β 4, rfl, (hH.may0 _ hb rfl (.inl rfl)).resolve_left (fun h => h), ⟨⟨rfl, List.nodup_nil, fun i hi => absurd hi (Nat.not_lt_zero _), fun r hr => (by cases hr)⟩, by decide, ?_, ⟨fun h => absurd rfl h, Nat.le_refl _, fun r hr => (by cases hr)⟩, fun h => (by cases h), fun h => absurd rfl h⟩, Sy.Only.below_all hH.only⟩
  have h1 : Blk w2 (β 4) 134 [.slice none 0 0] := hH.hp _ hb
  exact h1
def ownT (l fl : Nat) (ty : TypeId) (t : Tm) : Bk := ⟨l, ty, [.ptr fl 0], true, none, .own 0 t⟩
def nwSel (s : Sy.St) : List SV → Option Did
  | [] => some ⟨[], [], [], [ownT s.nx (s.nx + 1) 134 tn], .one (.c (.ptr s.nx 0)), [], none⟩
  | _ => none
def nwSp : Sy.Spec := chgSp 35 nwSel
theorem nwSp_ok {ρ : Env} (ho : ρ.o 0 = polT) : nwSp.Ok Try.prog ρ := by
  refine chgSp_ok fun {s xs d} hs hc hm {β w} hb hne => ?_
  unfold nwSel at hs
  split at hs
  · injection hs with hs
    subst hs
    refine ⟨fun y hy => (by cases hy), (nw_calls w).mono ?_⟩
    rintro e w' ⟨v, rfl, g, rfl, hg, hP, hbl⟩
    have e0 : upd (upd β s.nx g) (s.nx + 1) (bitsOf (polF g 0 0 [])) s.nx = g := by rw [upd_old (by omega), upd_new]
    have e1 : upd (upd β s.nx g) (s.nx + 1) (bitsOf (polF g 0 0 [])) (s.nx + 1) = bitsOf (polF g 0 0 []) := upd_new ..
    refine ⟨upd (upd β s.nx g) (s.nx + 1) (bitsOf (polF g 0 0 [])), ?_, Only.of_below hbl _, fun l hl => by rw [upd_old (by omega), upd_old (by omega)], fun _ h => (by cases h), fun b hb' => ?_, fun _ h => (by cases h), fun b hb' hr i hi => ?_, fun x hx y hy hxy => ?_, fun _ _ b hb' => (by cases hb')⟩
    · show _ = Ending.returned (.pointer (some ⟨upd (upd β s.nx g) (s.nx + 1) (bitsOf (polF g 0 0 [])) s.nx, 0, none⟩))
      rw [e0]
    · rw [List.mem_singleton.1 hb']
      show (ρ.o 0).P w' (upd (upd β s.nx g) (s.nx + 1) (bitsOf (polF g 0 0 [])) s.nx) (fun i => (upd (upd β s.nx g) (s.nx + 1) (bitsOf (polF g 0 0 [])) (s.nx + 1)).testBit i = true) []
      rw [ho, e0, e1]
      exact ⟨0, 0, [], hP, fun i => bitsOf_test i _⟩
    · rw [List.mem_singleton.1 hb'] at hi
      refine .inr ?_
      rcases hi with hi | ⟨_, hi⟩
      · change i = upd (upd β s.nx g) (s.nx + 1) (bitsOf (polF g 0 0 [])) s.nx at hi
        rw [hi, e0]; exact hg
      · change (upd (upd β s.nx g) (s.nx + 1) (bitsOf (polF g 0 0 [])) (s.nx + 1)).testBit i = true at hi
        rw [e1, bitsOf_test] at hi
        rcases polF_mem.1 hi with rfl | ⟨q, _⟩ | q
        · exact hg
        · exact absurd rfl q
        · cases q
    · rw [List.mem_singleton.1 hx, List.mem_singleton.1 hy] at hxy
      exact absurd rfl hxy
  · cases hs
/-! A call that turns the poller. -/
theorem own_chg {ρ : Env} (ho : ρ.o 0 = polT) {β : Bn} {w w' : World} {s : Sy.St} {l fl n : Nat} {ty : TypeId} {t t' : Tm} (hl : l + 1 < s.nx) (hn : s.nx ≤ n) (hd : ownT l fl ty t ∈ s.hp) {arr cap : Nat} {bs : List Nat} {rows' : List (List Value)} (hF : ∀ i, (β fl).testBit i = true ↔ i ∈ polF (β l) arr cap bs)
    {arr' cap' : Nat} {bs' : List Nat} (hP : Pol w' (β l) arr' cap' bs' rows') (hO : Only (fun i => i ∈ polF (β l) arr cap bs) w w') (hf : ∀ i ∈ polF (β l) arr' cap' bs', i ∈ polF (β l) arr cap bs ∨ w.heap.size ≤ i) (ht : (den ρ t').c = rows') :
    Chg ρ β (upd β n (bitsOf (polF (β l) arr' cap' bs'))) w w' s [] [] [] (some (ownT l n ty t')) := by
  have e0 : upd β n (bitsOf (polF (β l) arr' cap' bs')) l = β l := upd_old (by omega)
  have e1 : upd β n (bitsOf (polF (β l) arr' cap' bs')) n = bitsOf (polF (β l) arr' cap' bs') := upd_new ..
  have inF : ∀ i, i ∈ polF (β l) arr cap bs → fp β (ownT l fl ty t) i := fun i hi => .inr ⟨rfl, (hF i).2 hi⟩
  refine ⟨hO.mono fun i _ hi => .inr (.inr ⟨_, rfl, _, hd, rfl, ⟨rfl, rfl⟩, inF i hi⟩), fun k hk => upd_old (by omega), fun _ h => (by cases h), fun _ h => (by cases h), fun b hb => ?_, fun _ h => (by cases h), fun _ h => (by cases h), fun _ h => (by cases h)⟩
  injection hb with hb
  subst hb
  refine ⟨?_, fun i hi => ?_⟩
  · show (ρ.o 0).P w' (upd β n (bitsOf (polF (β l) arr' cap' bs')) l) (fun i => (upd β n (bitsOf (polF (β l) arr' cap' bs')) n).testBit i = true) (den ρ t').c
    rw [ho, e0, e1, ht]
    exact ⟨arr', cap', bs', hP, fun i => bitsOf_test i _⟩
  · have hi' : i ∈ polF (β l) arr' cap' bs' := by
      rcases hi with hi | ⟨_, hi⟩
      · change i = upd β n (bitsOf (polF (β l) arr' cap' bs')) l at hi
        rw [hi, e0]; exact polF_mem.2 (.inl rfl)
      · change (upd β n (bitsOf (polF (β l) arr' cap' bs')) n).testBit i = true at hi
        rw [e1, bitsOf_test] at hi
        exact hi
    exact (hf i hi').imp (fun q => ⟨_, hd, rfl, ⟨rfl, rfl⟩, inF i q⟩) (fun q => q)
def pkT (m e : Tm) : Tm := .tb (.cons (.int .i64)) m (.tb (.cons .bool) e (.tb .row (.il 0) (.il 0) (.il 0)) (.il 0)) (.il 0)
def inR (c : Cx) (x : Tm) : List Tm := need c (.le (.il (-9223372036854775808)) x) ++ need c (.le x (.il 9223372036854775807))
theorem inR_ok {ρ : Env} {c : Cx} (hc : c.ok ρ) {x : Tm} (h : Sy.Met ρ (inR c x)) : -9223372036854775808 ≤ (den ρ x).i ∧ (den ρ x).i ≤ 9223372036854775807 := ⟨le_of (need_ok hc h.l), le_of (need_ok hc h.r)⟩
def ownF (s : Sy.St) (l : Nat) : Option (TypeId × Nat × Tm) := match find l s.hp with
  | some ⟨_, ty, [.ptr fl 0], true, none, .own 0 t⟩ => if Nat.blt (l + 1) s.nx then some (ty, fl, t) else none
  | _ => none
theorem ownF_ok {s : Sy.St} {l : Nat} {ty : TypeId} {fl : Nat} {t : Tm} (h : ownF s l = some (ty, fl, t)) : ownT l fl ty t ∈ s.hp ∧ l + 1 < s.nx := by
  unfold ownF at h
  split at h
  · rename_i l' ty' fl' t' hf
    split at h
    · rename_i q
      injection h with h
      injection h with h1 h
      injection h with h2 h3
      subst h1 h2 h3
      have := find_mem hf
      have e : l' = l := this.2
      subst e
      exact ⟨this.1, blt_lt q⟩
    · cases h
  · cases h
theorem own_open {ρ : Env} (ho : ρ.o 0 = polT) {β : Bn} {w : World} {s : Sy.St} (hb : ∀ b ∈ s.hp, BkOk ρ β w b) {l fl : Nat} {ty : TypeId} {t : Tm} (h : ownT l fl ty t ∈ s.hp) : ∃ arr cap bs, Pol w (β l) arr cap bs (den ρ t).c ∧ ∀ i, (β fl).testBit i = true ↔ i ∈ polF (β l) arr cap bs := by
  have hB : (ρ.o 0).P w (β l) (fun i => (β fl).testBit i = true) (den ρ t).c := hb _ h
  rw [ho] at hB
  exact hB
def seT' (t fd m e : Tm) : Tm := .ap 11 t fd (pkT m e)
def seSel (s : Sy.St) : List SV → Option Did
  | [.one (.c (.ptr l 0)), .one (.c (.int .i64 fd)), .one (.c (.int .i64 m)), .one (.c (.bool e))] => match ownF s l with
    | some (ty, fl, t) => some ⟨inR s.cx fd ++ inR s.cx m, [], [], [], .one (.c (.int .i64 (.ap 10 t fd (.il 0)))), [], some (ownT l s.nx ty (seT' t fd m e))⟩
    | none => none
  | _ => none
def seSp : Sy.Spec := chgSp 36 seSel
theorem seT'_c {ρ : Env} (hf : ρ.f = poF) (t fd m e : Tm) (h0 : -9223372036854775808 ≤ (den ρ m).i) (h1 : (den ρ m).i ≤ 9223372036854775807) : (den ρ (seT' t fd m e)).c = setR (den ρ t).c (den ρ fd).i (den ρ m).i (den ρ e).b := by
  show (ρ.f 11 (den ρ t) (den ρ fd) (den ρ (pkT m e))).c = _
  rw [hf]
  show setR (den ρ t).c (den ρ fd).i (gI .i64 [.int .i64 (den ρ m).i, .bool (den ρ e).b] 0) (gB [.int .i64 (den ρ m).i, .bool (den ρ e).b] 1) = _
  rw [gI_lit (a := (den ρ m).i) rfl h0 h1]
  rfl
theorem seSp_ok {ρ : Env} (hf : ρ.f = poF) (ho : ρ.o 0 = polT) : seSp.Ok Try.prog ρ := by
  refine chgSp_ok fun {s xs d} hs hc hm {β w} hb hne => ?_
  unfold seSel at hs
  split at hs
  · rename_i l fd m e
    split at hs
    · rename_i ty fl t hfo
      injection hs with hs
      subst hs
      obtain ⟨hd, hlx⟩ := ownF_ok hfo
      obtain ⟨arr, cap, bs, hP, hF⟩ := own_open ho hb hd
      obtain ⟨x0, x1⟩ := inR_ok hc hm.l
      obtain ⟨y0, y1⟩ := inR_ok hc hm.r
      refine ⟨fun y hy => (by cases hy), (set_calls (e := (den ρ e).b) hP x0 x1 y0 y1).mono ?_⟩
      rintro e' w' ⟨v, rfl, rfl, arr', cap', bs', h1, h2, h3⟩
      refine ⟨_, ?_, own_chg ho hlx (Nat.le_refl _) hd hF h1 h2 h3 (seT'_c hf t fd m e y0 y1)⟩
      show _ = Ending.returned (.int .i64 (ρ.f 10 (den ρ t) (den ρ fd) _).i)
      rw [hf]
      rfl
    · cases hs
  · cases hs
def drSel (s : Sy.St) : List SV → Option Did
  | [.one (.c (.ptr l 0)), .one (.c (.int .i64 fd))] => match ownF s l with
    | some (ty, fl, t) => some ⟨inR s.cx fd, [], [], [], .one (.c (.int .i64 (.ap 12 t fd (.il 0)))), [], some (ownT l s.nx ty (.ap 13 t fd (.il 0)))⟩
    | none => none
  | _ => none
def drSp' : Sy.Spec := chgSp 38 drSel
theorem drSp'_ok {ρ : Env} (hf : ρ.f = poF) (ho : ρ.o 0 = polT) : drSp'.Ok Try.prog ρ := by
  refine chgSp_ok fun {s xs d} hs hc hm {β w} hb hne => ?_
  unfold drSel at hs
  split at hs
  · rename_i l fd
    split at hs
    · rename_i ty fl t hfo
      injection hs with hs
      subst hs
      obtain ⟨hd, hlx⟩ := ownF_ok hfo
      obtain ⟨arr, cap, bs, hP, hF⟩ := own_open ho hb hd
      obtain ⟨x0, x1⟩ := inR_ok hc hm
      refine ⟨fun y hy => (by cases hy), (drp_calls hP x0 x1).mono ?_⟩
      rintro e' w' ⟨v, rfl, rfl, arr', cap', bs', h1, h2, h3⟩
      refine ⟨_, ?_, own_chg ho hlx (Nat.le_refl _) hd hF h1 h2 h3 (show (ρ.f 13 (den ρ t) (den ρ fd) _).c = _ by rw [hf]; rfl)⟩
      show _ = Ending.returned (.int .i64 (ρ.f 12 (den ρ t) (den ρ fd) _).i)
      rw [hf]
      rfl
    · cases hs
  · cases hs
def noSel (s : Sy.St) : List SV → Option Did
  | [.one (.c (.ptr l 0)), .one (.c (.int .i64 fd)), .one (.c (.int .i64 m))] => match ownF s l with
    | some (ty, fl, t) => some ⟨inR s.cx fd ++ inR s.cx m, [], [], [], .tup [], [], some (ownT l s.nx ty (.ap 14 t fd m))⟩
    | none => none
  | _ => none
def noSp : Sy.Spec := chgSp 40 noSel
theorem noSp_ok {ρ : Env} (hf : ρ.f = poF) (ho : ρ.o 0 = polT) : noSp.Ok Try.prog ρ := by
  refine chgSp_ok fun {s xs d} hs hc hm {β w} hb hne => ?_
  unfold noSel at hs
  split at hs
  · rename_i l fd m
    split at hs
    · rename_i ty fl t hfo
      injection hs with hs
      subst hs
      obtain ⟨hd, hlx⟩ := ownF_ok hfo
      obtain ⟨arr, cap, bs, hP, hF⟩ := own_open ho hb hd
      obtain ⟨x0, x1⟩ := inR_ok hc hm.l
      obtain ⟨y0, y1⟩ := inR_ok hc hm.r
      refine ⟨fun y hy => (by cases hy), (not_calls hP x0 x1 y0 y1).mono ?_⟩
      rintro e' w' ⟨v, rfl, rfl, arr', cap', bs', h1, h2, h3⟩
      exact ⟨_, rfl, own_chg ho hlx (Nat.le_refl _) hd hF h1 h2 h3 (show (ρ.f 14 (den ρ t) (den ρ fd) (den ρ m)).c = _ by rw [hf]; rfl)⟩
    · cases hs
  · cases hs
end Go.Proofs.Ytnjpoidpfcfbeaa
/- The pollers' calls in letters: Wait; the reference's. -/
namespace Go.Proofs.Ytnjpoidpfcfbeaa
open Go.RowKit Sy
set_option linter.unusedVariables false
set_option linter.unusedSimpArgs false

def wkT (nx : Nat) (t : Tm) : Bk := ⟨nx, 78, [], true, none, .tab wkLv t⟩
def oT (t m : Tm) : Tm := .ap 16 t m (.il 0)
theorem oT_c {ρ : Env} (hf : ρ.f = poF) (t m : Tm) : (den ρ (oT t m)).c = waO (den ρ t).c (den ρ m).i := by
  show (ρ.f 16 (den ρ t) (den ρ m) _).c = _
  rw [hf]; rfl
theorem waO_len (rows : List (List Value)) (most : Int) : (waO rows most).length ≤ rows.length := by
  unfold waO
  split
  · exact Nat.zero_le _
  · have := wtS_len most rows 0
    rw [List.length_map]
    omega
def waSel (s : Sy.St) : List SV → Option Did
  | [.one (.c (.ptr l 0)), .one (.c (.int .i64 m))] => match ownF s l with
    | some (ty, fl, t) => some ⟨inR s.cx m ++ need s.cx (.le (mkTL s.cx t) (.il 16)), [], [], [wkT s.nx (oT t m)], .tup [.c (.slt s.nx 2 (.il 0) (tlen (oT t m)) (.il 0)), .c (.int .i64 (.ap 15 t m (.il 0)))], [⟨tlen (oT t m), 0, 16⟩], some (ownT l (s.nx + 2) ty (.ap 17 t m (.il 0)))⟩
    | none => none
  | _ => none
def waSp : Sy.Spec := chgSp 42 waSel
theorem waSp_ok {ρ : Env} (hf : ρ.f = poF) (ho : ρ.o 0 = polT) : waSp.Ok Try.prog ρ := by
  refine chgSp_ok fun {s xs d} hs hc hm {β w} hb hne => ?_
  unfold waSel at hs
  split at hs
  · rename_i l m
    split at hs
    · rename_i ty fl t hfo
      injection hs with hs
      subst hs
      obtain ⟨hd, hlx⟩ := ownF_ok hfo
      obtain ⟨arr, cap, bs, hP, hF⟩ := own_open ho hb hd
      obtain ⟨x0, x1⟩ := inR_ok hc hm.l
      have m1 := le_of (need_ok hc hm.r)
      rw [mkTL_ok hc] at m1
      change _ ≤ (16 : Int) at m1
      refine ⟨fun y hy => ?_, (wai_calls hP x0 x1).mono ?_⟩
      · rw [List.mem_singleton.1 hy]
        show (0 : Int) ≤ ((den ρ (oT t m)).c.length : Int) ∧ ((den ρ (oT t m)).c.length : Int) ≤ 16
        rw [oT_c hf]
        have := waO_len (den ρ t).c (den ρ m).i
        omega
      · rintro e' w' ⟨v, rfl, go, co, rfl, hK, hgo, arr', cap', bs', h1, h2, h3, h4⟩
        have C := own_chg ho hlx (n := s.nx + 2) (by omega) hd hF h1 h2 h3 (t' := .ap 17 t m (.il 0)) (show (ρ.f 17 (den ρ t) (den ρ m) _).c = _ by rw [hf]; rfl)
        obtain ⟨β1, hβ1⟩ : ∃ β1, upd β (s.nx + 2) (bitsOf (polF (β l) arr' cap' bs')) = β1 := ⟨_, rfl⟩
        have q0 : β1 l = β l := by rw [← hβ1, upd_old (by omega)]
        have q1 : β1 (s.nx + 2) = bitsOf (polF (β l) arr' cap' bs') := by rw [← hβ1, upd_new]
        rw [hβ1] at C
        have old : ∀ k, k < s.nx ∨ k = s.nx + 2 → upd (upd β1 s.nx go) (s.nx + 1) co k = β1 k := fun k hk => by rw [upd_old (by omega), upd_old (by omega)]
        have e0 : upd (upd β1 s.nx go) (s.nx + 1) co s.nx = go := by rw [upd_old (by omega), upd_new]
        have e1 : upd (upd β1 s.nx go) (s.nx + 1) co (s.nx + 1) = co := upd_new ..
        have ol := old l (by omega)
        have of := old (s.nx + 2) (.inr rfl)
        obtain ⟨β2, hβ2⟩ : ∃ β2, upd (upd β1 s.nx go) (s.nx + 1) co = β2 := ⟨_, rfl⟩
        rw [hβ2] at e0 e1 ol of old
        have hden : denL ρ β2 (ownT l (s.nx + 2) ty (.ap 17 t m (.il 0))).cs = denL ρ β1 (ownT l (s.nx + 2) ty (.ap 17 t m (.il 0))).cs := by
          show [Value.pointer (some ⟨β2 (s.nx + 2), 0, none⟩)] = [Value.pointer (some ⟨β1 (s.nx + 2), 0, none⟩)]
          rw [of]
        have hco : ∀ b ∈ (some (ownT l (s.nx + 2) ty (.ap 17 t m (.il 0))) : Option Bk), b = ownT l (s.nx + 2) ty (.ap 17 t m (.il 0)) := fun b hb => by injection hb with hb; exact hb.symm
        have fpo : ∀ i, fp β2 (ownT l (s.nx + 2) ty (.ap 17 t m (.il 0))) i → i ∈ polF (β l) arr' cap' bs' := fun i hi => by
          rcases hi with hi | ⟨_, hi⟩
          · change i = β2 l at hi
            rw [hi, ol, q0]
            exact polF_mem.2 (.inl rfl)
          · change (β2 (s.nx + 2)).testBit i = true at hi
            rw [of, q1, bitsOf_test] at hi
            exact hi
        refine ⟨β2, ?_, C.only, fun k hk => (old k (.inl hk)).trans (C.old k hk), fun _ h => (by cases h), fun b hb' => ?_, fun b hb' => ?_, fun b hb' hr i hi => ?_, fun x hx y hy hxy => ?_, fun x hx b hb' hr i hi1 hi2 => ?_⟩
        · show _ = Ending.returned (.tuple #[sltZ (β2 s.nx) (β2 (s.nx + 1)) 2 0 (((den ρ (oT t m)).c.length : Int)).toNat 0, .int .i64 (ρ.f 15 (den ρ t) (den ρ m) _).i])
          rw [e0, e1, sltZ_zero, oT_c hf, Int.toNat_natCast, hf]
          rfl
        · rw [List.mem_singleton.1 hb']
          show RowT w' (β2 s.nx) (β2 (s.nx + 1)) 78 wkLv (den ρ (oT t m)).c
          rw [e0, e1, oT_c hf]
          exact hK
        · obtain ⟨k1, k2⟩ := C.own b hb'
          have := hco b hb'
          subst this
          refine ⟨k1.agree ol (fun q => by cases q) hden, fun i hi => ?_⟩
          exact k2 i ((fp_agree ol hden i).1 hi)
        · rw [List.mem_singleton.1 hb'] at hi hr
          have h5 := fp_one rfl hi
          change i = β2 s.nx at h5
          rw [e0] at h5
          have hc0 : co ≠ 0 := fun e => (hr.resolve_left (by simp [wkT, Bk.nilable, Xt.isTab])) (e1.trans e)
          rw [h5]
          exact .inr (hgo hc0)
        · rw [List.mem_singleton.1 hx, List.mem_singleton.1 hy] at hxy
          exact absurd rfl hxy
        · rw [List.mem_singleton.1 hx] at hi1 hr
          have h5 := fp_one rfl hi1
          change i = β2 s.nx at h5
          rw [e0] at h5
          have hc0 : co ≠ 0 := fun e => (hr.resolve_left (by simp [wkT, Bk.nilable, Xt.isTab])) (e1.trans e)
          rw [hco b hb'] at hi2
          exact h4 hc0 (h5 ▸ fpo i hi2)
    · cases hs
  · cases hs
/-! The reference's. -/
def rfF (s : Sy.St) (l : Nat) : Option (Bool × List Tm × Nat × Tm) := match find l s.hp with
  | some ⟨_, ty, [x], rw, none, .no⟩ => match tabC s.cx s.hp 139 waLv x with
    | some (ms, lt, t) => if Nat.beq ty 69 && (!(Nat.beq l lt) && (Nat.blt l s.nx && Nat.blt (lt + 1) s.nx)) then some (rw, ms ++ need s.cx (.le (mkTL s.cx t) (.il 16)), lt, t) else none
    | none => none
  | _ => none
theorem rfF_ok {ρ : Env} {s : Sy.St} {l : Nat} {rw : Bool} {ms : List Tm} {lt : Nat} {t : Tm} (h : rfF s l = some (rw, ms, lt, t)) (hc : s.cx.ok ρ) (hm : Sy.Met ρ ms) {β : Bn} {w : World} (hb : ∀ b ∈ s.hp, BkOk ρ β w b) (hne : ∀ x ∈ s.hp, ∀ y ∈ s.hp, x.l ≠ y.l → x.real β → y.real β → apart β x y) :
    Rf w (β l) (β lt) (β (lt + 1)) (den ρ t).c ∧ l < s.nx ∧ lt + 1 < s.nx ∧ ∃ d ∈ s.hp, d.l = lt ∧ d.nilable = true := by
  unfold rfF at h
  split at h
  · rename_i l' ty x rw' hfind
    split at h
    · rename_i ms' lt' t' h1
      split at h
      · rename_i q
        simp only [Bool.and_eq_true] at q
        injection h with h
        injection h with e1 h
        injection h with e2 h
        injection h with e3 e4
        subst e1 e2 e3 e4
        obtain ⟨⟨d, hd, dl, dn⟩, a1, a2⟩ := tabC_ok (β := β) hb hc h1 hm.l
        have m1 := le_of (need_ok hc hm.r)
        rw [mkTL_ok hc] at m1
        change _ ≤ (16 : Int) at m1
        have hmem := find_mem hfind
        have hl : l' = l := hmem.2
        subst hl
        have hty : ty = 69 := Nat.eq_of_beq_eq_true q.1
        subst hty
        have hB : Blk w (β l') 69 [C.den ρ β x] := hb _ hmem.1
        rw [a1] at hB
        refine ⟨⟨hB, a2, fun hc0 e => ?_, by omega⟩, blt_lt q.2.2.1, blt_lt q.2.2.2, d, hd, dl, dn⟩
        have hll : l' ≠ d.l := fun e => by
          have := q.2.1
          rw [e, dl, Nat.beq_refl] at this
          cases this
        exact (hne _ hmem.1 d hd hll (.inl rfl) (.inr (by rw [dl]; exact hc0))).ne (by rw [dl]; exact e.symm)
      · cases h
    · cases h
  · cases h
def rfO' (l : Nat) (rw : Bool) (nx : Nat) (t : Tm) : Bk := ⟨l, 69, [.slt nx 5 (.il 0) (tlen t) (.il 0)], rw, none, .no⟩
def rfN' (nx : Nat) (t : Tm) : Bk := ⟨nx, 139, [], true, none, .tab waLv t⟩
theorem ref_chg {ρ : Env} {β : Bn} {w w' : World} {s : Sy.St} {l lt : Nat} {rw : Bool} {t' : Tm} (hl : l < s.nx) (hlt : lt + 1 < s.nx) (hd : ∃ d ∈ s.hp, d.l = lt ∧ d.nilable = true) {rows' : List (List Value)} {a' c' : Nat} (hR : Rf w' (β l) a' c' rows') (hO : Only (poS (β l) (β lt) (β (lt + 1))) w w') (hf : c' ≠ 0 → (β (lt + 1) ≠ 0 ∧ a' = β lt) ∨ w.heap.size ≤ a') (ht : (den ρ t').c = rows') :
    Chg ρ β (upd (upd β s.nx a') (s.nx + 1) c') w w' s [lt] [rfO' l rw s.nx t'] [rfN' s.nx t'] := by
  obtain ⟨d, hd, dl, dn⟩ := hd
  have old : ∀ k, k < s.nx → upd (upd β s.nx a') (s.nx + 1) c' k = β k := fun k hk => by rw [upd_old (by omega), upd_old (by omega)]
  have e0 : upd (upd β s.nx a') (s.nx + 1) c' s.nx = a' := by rw [upd_old (by omega), upd_new]
  have e1 : upd (upd β s.nx a') (s.nx + 1) c' (s.nx + 1) = c' := upd_new ..
  have dr : β (lt + 1) ≠ 0 → d.real β := fun h => .inr (by rw [dl]; exact h)
  refine ⟨hO.mono fun i _ hi => ?_, fun k hk => old k hk, fun b hb => ?_, fun b hb => ?_, fun _ h => (by cases h), fun b hb hr i hi => ?_, fun x hx y hy hxy => ?_, fun _ _ b hb => (by cases hb)⟩
  · rcases hi with rfl | ⟨h0, rfl⟩
    · exact .inl ⟨_, List.mem_cons_self .., rfl⟩
    · exact .inr (.inl ⟨d, hd, by rw [dl]; exact List.mem_cons_self .., dr h0, by rw [← dl]; exact fp_root β d⟩)
  · rw [List.mem_singleton.1 hb]
    show Blk w' (upd (upd β s.nx a') (s.nx + 1) c' l) 69 [sltZ (upd (upd β s.nx a') (s.nx + 1) c' s.nx) (upd (upd β s.nx a') (s.nx + 1) c' (s.nx + 1)) 5 0 (((den ρ t').c.length : Int)).toNat 0]
    rw [old l hl, e0, e1, sltZ_zero, Int.toNat_natCast, ht]
    exact hR.obj
  · rw [List.mem_singleton.1 hb]
    show RowT w' (upd (upd β s.nx a') (s.nx + 1) c' s.nx) (upd (upd β s.nx a') (s.nx + 1) c' (s.nx + 1)) 139 waLv (den ρ t').c
    rw [e0, e1, ht]
    exact hR.tab
  · rw [List.mem_singleton.1 hb] at hi hr
    have h5 := fp_one rfl hi
    change i = upd (upd β s.nx a') (s.nx + 1) c' s.nx at h5
    rw [e0] at h5
    have hc0 : c' ≠ 0 := fun e => (hr.resolve_left (by simp [rfN', Bk.nilable, Xt.isTab])) (e1.trans e)
    rw [h5]
    rcases hf hc0 with ⟨h0, e⟩ | h
    · exact .inl ⟨d, hd, by rw [dl]; exact List.mem_cons_self .., dr h0, by rw [e, ← dl]; exact fp_root β d⟩
    · exact .inr h
  · rw [List.mem_singleton.1 hx, List.mem_singleton.1 hy] at hxy
    exact absurd rfl hxy
def rseSel (s : Sy.St) : List SV → Option Did
  | [.one (.c (.ptr l 0)), .one (.c (.int .i64 fd)), .one (.c (.int .i64 m)), .one (.c (.bool e))] => match rfF s l with
    | some (rw, ms, lt, t) => some ⟨ms ++ (inR s.cx fd ++ inR s.cx m), [lt], [rfO' l rw s.nx (seT' t fd m e)], [rfN' s.nx (seT' t fd m e)], .one (.c (.int .i64 (.ap 10 t fd (.il 0)))), [], none⟩
    | none => none
  | _ => none
def rseSp : Sy.Spec := chgSp 37 rseSel
theorem rseSp_ok {ρ : Env} (hf : ρ.f = poF) : rseSp.Ok Try.prog ρ := by
  refine chgSp_ok fun {s xs d} hs hc hm {β w} hb hne => ?_
  unfold rseSel at hs
  split at hs
  · rename_i l fd m e
    split at hs
    · rename_i rw ms lt t hfo
      injection hs with hs
      subst hs
      obtain ⟨R, hl, hlt, hd⟩ := rfF_ok hfo hc hm.l hb hne
      obtain ⟨x0, x1⟩ := inR_ok hc hm.r.l
      obtain ⟨y0, y1⟩ := inR_ok hc hm.r.r
      refine ⟨fun y hy => (by cases hy), (rset_calls (e := (den ρ e).b) R x0 x1 y0 y1).mono ?_⟩
      rintro e' w' ⟨v, rfl, rfl, a', c', h1, h2, h3⟩
      refine ⟨_, ?_, ref_chg hl hlt hd h1 h2 h3 (seT'_c hf t fd m e y0 y1)⟩
      show _ = Ending.returned (.int .i64 (ρ.f 10 (den ρ t) (den ρ fd) _).i)
      rw [hf]
      rfl
    · cases hs
  · cases hs
def rdrSel (s : Sy.St) : List SV → Option Did
  | [.one (.c (.ptr l 0)), .one (.c (.int .i64 fd))] => match rfF s l with
    | some (rw, ms, lt, t) => some ⟨ms ++ inR s.cx fd, [lt], [rfO' l rw s.nx (.ap 13 t fd (.il 0))], [rfN' s.nx (.ap 13 t fd (.il 0))], .one (.c (.int .i64 (.ap 12 t fd (.il 0)))), [], none⟩
    | none => none
  | _ => none
def rdrSp : Sy.Spec := chgSp 39 rdrSel
theorem rdrSp_ok {ρ : Env} (hf : ρ.f = poF) : rdrSp.Ok Try.prog ρ := by
  refine chgSp_ok fun {s xs d} hs hc hm {β w} hb hne => ?_
  unfold rdrSel at hs
  split at hs
  · rename_i l fd
    split at hs
    · rename_i rw ms lt t hfo
      injection hs with hs
      subst hs
      obtain ⟨R, hl, hlt, hd⟩ := rfF_ok hfo hc hm.l hb hne
      obtain ⟨x0, x1⟩ := inR_ok hc hm.r
      refine ⟨fun y hy => (by cases hy), (rdrp_calls R x0 x1).mono ?_⟩
      rintro e' w' ⟨v, rfl, rfl, a', c', h1, h2, h3⟩
      refine ⟨_, ?_, ref_chg hl hlt hd h1 h2 h3 (t' := .ap 13 t fd (.il 0)) (show (ρ.f 13 (den ρ t) (den ρ fd) _).c = _ by rw [hf]; rfl)⟩
      show _ = Ending.returned (.int .i64 (ρ.f 12 (den ρ t) (den ρ fd) _).i)
      rw [hf]
      rfl
    · cases hs
  · cases hs
def rnoSel (s : Sy.St) : List SV → Option Did
  | [.one (.c (.ptr l 0)), .one (.c (.int .i64 fd)), .one (.c (.int .i64 m))] => match rfF s l with
    | some (rw, ms, lt, .cv 0) => some ⟨ms ++ (inR s.cx fd ++ inR s.cx m), [lt], [rfO' l rw s.nx (.ap 14 (.cv 0) fd m)], [rfN' s.nx (.ap 14 (.cv 0) fd m)], .tup [], [], none⟩
    | _ => none
  | _ => none
def rnoSp : Sy.Spec := chgSp 41 rnoSel
theorem rnoSp_ok {ρ : Env} (hf : ρ.f = poF) (hg : ∀ r ∈ ρ.c 0, WRow r) : rnoSp.Ok Try.prog ρ := by
  refine chgSp_ok fun {s xs d} hs hc hm {β w} hb hne => ?_
  unfold rnoSel at hs
  split at hs
  · rename_i l fd m
    split at hs
    · rename_i rw ms lt hfo
      injection hs with hs
      subst hs
      obtain ⟨R, hl, hlt, hd⟩ := rfF_ok hfo hc hm.l hb hne
      obtain ⟨x0, x1⟩ := inR_ok hc hm.r.l
      obtain ⟨y0, y1⟩ := inR_ok hc hm.r.r
      refine ⟨fun y hy => (by cases hy), (rnot_calls R hg x0 x1 y0 y1).mono ?_⟩
      rintro e' w' ⟨v, rfl, rfl, a', c', h1, h2, h3⟩
      exact ⟨_, rfl, ref_chg hl hlt hd h1 h2 h3 (t' := .ap 14 (.cv 0) fd m) (show (ρ.f 14 (ρ.c 0 |> fun c => den ρ (.cv 0)) (den ρ fd) (den ρ m)).c = _ by rw [hf]; rfl)⟩
    · cases hs
  · cases hs
def rwaSel (s : Sy.St) : List SV → Option Did
  | [.one (.c (.ptr l 0)), .one (.c (.int .i64 m))] => match rfF s l with
    | some (rw, ms, lt, .cv 0) => some ⟨ms ++ inR s.cx m, [lt], [rfO' l rw s.nx (.ap 17 (.cv 0) m (.il 0))], [rfN' s.nx (.ap 17 (.cv 0) m (.il 0)), wkT (s.nx + 2) (oT (.cv 0) m)], .tup [.c (.slt (s.nx + 2) 2 (.il 0) (tlen (oT (.cv 0) m)) (.il 0)), .c (.int .i64 (.ap 15 (.cv 0) m (.il 0)))], [⟨tlen (oT (.cv 0) m), 0, 16⟩], none⟩
    | _ => none
  | _ => none
def rwaSp : Sy.Spec := chgSp 43 rwaSel
theorem rwaSp_ok {ρ : Env} (hf : ρ.f = poF) (hg : ∀ r ∈ ρ.c 0, WRow r) : rwaSp.Ok Try.prog ρ := by
  refine chgSp_ok fun {s xs d} hs hc hm {β w} hb hne => ?_
  unfold rwaSel at hs
  split at hs
  · rename_i l m
    split at hs
    · rename_i rw ms lt hfo
      injection hs with hs
      subst hs
      obtain ⟨R, hl, hlt, hd⟩ := rfF_ok hfo hc hm.l hb hne
      obtain ⟨x0, x1⟩ := inR_ok hc hm.r
      have l16 := R.l16
      refine ⟨fun y hy => ?_, (rwai_calls R hg x0 x1).mono ?_⟩
      · rw [List.mem_singleton.1 hy]
        show (0 : Int) ≤ ((den ρ (oT (.cv 0) m)).c.length : Int) ∧ ((den ρ (oT (.cv 0) m)).c.length : Int) ≤ 16
        rw [oT_c hf]
        have := waO_len (den ρ (.cv 0)).c (den ρ m).i
        omega
      · rintro e' w' ⟨v, rfl, go, co, rfl, hK, hgo, a', c', h1, h2, h3, h4⟩
        have C := ref_chg (ρ := ρ) (rw := rw) hl hlt hd h1 h2 h3 (t' := .ap 17 (.cv 0) m (.il 0)) (show (ρ.f 17 (den ρ (.cv 0)) (den ρ m) _).c = _ by rw [hf]; rfl)
        obtain ⟨β1, hβ1⟩ : ∃ β1, upd (upd β s.nx a') (s.nx + 1) c' = β1 := ⟨_, rfl⟩
        have q0 : β1 s.nx = a' := by rw [← hβ1, upd_old (by omega), upd_new]
        have q1 : β1 (s.nx + 1) = c' := by rw [← hβ1, upd_new]
        rw [hβ1] at C
        have old : ∀ k, k < s.nx + 2 → upd (upd β1 (s.nx + 2) go) (s.nx + 3) co k = β1 k := fun k hk => by rw [upd_old (by omega), upd_old (by omega)]
        have e0 : upd (upd β1 (s.nx + 2) go) (s.nx + 3) co (s.nx + 2) = go := by rw [upd_old (by omega), upd_new]
        have e1 : upd (upd β1 (s.nx + 2) go) (s.nx + 3) co (s.nx + 2 + 1) = co := upd_new ..
        obtain ⟨β2, hβ2⟩ : ∃ β2, upd (upd β1 (s.nx + 2) go) (s.nx + 3) co = β2 := ⟨_, rfl⟩
        rw [hβ2] at old e0 e1
        have wkr : (wkT (s.nx + 2) (oT (.cv 0) m)).real β2 → co ≠ 0 := fun hr e => (hr.resolve_left (by simp [wkT, Bk.nilable, Xt.isTab])) (e1.trans e)
        have rfr : ∀ t', (rfN' s.nx t').real β2 → c' ≠ 0 := fun t' hr e => (hr.resolve_left (by simp [rfN', Bk.nilable, Xt.isTab])) ((old (s.nx + 1) (by omega)).trans (q1.trans e))
        have wkf : ∀ i, fp β2 (wkT (s.nx + 2) (oT (.cv 0) m)) i → i = go := fun i hi => (fp_one rfl hi).trans e0
        have rff : ∀ t' i, fp β2 (rfN' s.nx t') i → i = a' := fun t' i hi => (fp_one rfl hi).trans ((old s.nx (by omega)).trans q0)
        refine ⟨β2, ?_, C.only, fun k hk => (old k (by omega)).trans (C.old k hk), fun b hb' => ?_, fun b hb' => ?_, fun _ h => (by cases h), fun b hb' hr i hi => ?_, fun x hx y hy hxy hrx hry i hi1 hi2 => ?_, fun _ _ b hb' => (by cases hb')⟩
        · show _ = Ending.returned (.tuple #[sltZ (β2 (s.nx + 2)) (β2 (s.nx + 2 + 1)) 2 0 (((den ρ (oT (.cv 0) m)).c.length : Int)).toNat 0, .int .i64 (ρ.f 15 (den ρ (.cv 0)) (den ρ m) _).i])
          rw [e0, e1, sltZ_zero, oT_c hf, Int.toNat_natCast, hf]
          rfl
        · have k1 := C.nb b hb'
          rw [List.mem_singleton.1 hb'] at k1 ⊢
          have k1 : Blk w' (β1 l) 69 [sltZ (β1 s.nx) (β1 (s.nx + 1)) 5 0 (((den ρ (.ap 17 (.cv 0) m (.il 0))).c.length : Int)).toNat 0] := k1
          show Blk w' (β2 l) 69 [sltZ (β2 s.nx) (β2 (s.nx + 1)) 5 0 (((den ρ (.ap 17 (.cv 0) m (.il 0))).c.length : Int)).toNat 0]
          rw [old l (by omega), old s.nx (by omega), old (s.nx + 1) (by omega)]
          exact k1
        · rcases List.mem_cons.1 hb' with rfl | hb'
          · exact (C.add _ (List.mem_cons_self ..)).agree (old s.nx (by omega)) (fun _ => old (s.nx + 1) (by omega)) rfl
          · rw [List.mem_singleton.1 hb']
            show RowT w' (β2 (s.nx + 2)) (β2 (s.nx + 2 + 1)) 78 wkLv (den ρ (oT (.cv 0) m)).c
            rw [e0, e1, oT_c hf]
            exact hK
        · rcases List.mem_cons.1 hb' with rfl | hb'
          · exact C.fresh _ (List.mem_cons_self ..) (.inr fun e => rfr _ hr (q1.symm.trans e)) i ((fp_agree (ρ := ρ) (β := β1) (β' := β2) (b := rfN' s.nx (.ap 17 (.cv 0) m (.il 0))) (old s.nx (by omega)) rfl i).1 hi)
          · rw [List.mem_singleton.1 hb'] at hi hr
            rw [wkf i hi]
            exact .inr (hgo (wkr hr))
        · rcases List.mem_cons.1 hx with rfl | hx <;> rcases List.mem_cons.1 hy with rfl | hy
          · exact absurd rfl hxy
          · rw [List.mem_singleton.1 hy] at hi2 hry
            exact (h4 (wkr hry)).2 (rfr _ hrx) ((wkf i hi2).symm.trans (rff _ i hi1))
          · rw [List.mem_singleton.1 hx] at hi1 hrx
            exact (h4 (wkr hrx)).2 (rfr _ hry) ((wkf i hi1).symm.trans (rff _ i hi2))
          · rw [List.mem_singleton.1 hx, List.mem_singleton.1 hy] at hxy
            exact absurd rfl hxy
    · cases hs
  · cases hs
end Go.Proofs.Ytnjpoidpfcfbeaa
