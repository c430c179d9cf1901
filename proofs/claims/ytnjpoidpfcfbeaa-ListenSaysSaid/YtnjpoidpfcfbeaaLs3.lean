/- Who waits to be taken: the reference's Take. -/
import Derived.Test.YtnjpoidpfcfbeaaLs2
namespace Go.Proofs.Ytnjpoidpfcfbeaa
open Go.RowKit Sy
set_option linter.unusedVariables false
set_option linter.unusedSimpArgs false

def tkP : List Nat := [1, 0, 1, 2]
def wtW : Bk := ⟨40, 125, [], true, none, .tab wtLv (.cv 0)⟩
def tkBs : List Bd := ⟨tlen (.cv 0), 0, 3000⟩ :: lsBs
def tkSt : Sy.St := ⟨[], [blO true, wtW], ⟨tkBs, []⟩, 50⟩
def tk0 (P : Program) (fn : Func) : Rs := run P [drSp] 10 400 50 (.code (pre tkP (bodyOf fn))) (enterS fn mnA tkSt)
def tkCx : Cx := ⟨⟨.iv 0, 0, 4000⟩ :: tkBs, [.le (.iv 0) (tlen (.cv 0))]⟩
def tkT (P : Program) (fn : Func) : Sy.St := tplS (lfAt (tk0 P fn) 0) (lpBody (Sy.sub tkP (bodyOf fn))) [(12, .one (.c (.int .i64 (.iv 0))))] [] tkCx 70
def tk1 (P : Program) (fn : Func) : Rs := run P [drSp] 10 400 50 (.code (lpBody (Sy.sub tkP (bodyOf fn)))) (tkT P fn)
def gU : Tm := .tb (.get (.int .u32) 0) (.cv 0) (.iv 0) (.il 0)
def gP : Tm := .tb (.get (.int .i64) 1) (.cv 0) (.iv 0) (.il 0)
def gH : Tm := .tb (.get .bool 2) (.cv 0) (.iv 0) (.il 0)
def gD : Tm := .tb (.get (.int .i64) 3) (.cv 0) (.iv 0) (.il 0)
def tkV : SV := .tup [.c (.int .i64 gD), .agg [.int .u32 gU, .int .i64 gP], .c (.int .i64 (.il 0))]
def tkHp : List Bk := [wtN 72 (.ap 48 (.cv 0) (enY gU gP) (.il 0)), ⟨70, 125, [.int .u32 gU, .int .i64 gP, .bool gH, .int .i64 gD], true, .none, .no⟩, ⟨50, 33, [.int .u32 gU, .int .i64 gP], true, .none, .no⟩, blN 0 72 (.iv 24) (.ap 48 (.cv 0) (enY gU gP) (.il 0))]
set_option maxRecDepth 100000 in
theorem tk_run0 : shR 50 none (tk0 Try.prog Try.f32) = some [(.out 0 .normal [])] := by kernel_rfl
set_option maxRecDepth 100000 in
theorem tk_match : (matchS 50 (tkT Try.prog Try.f32) (lfAt (tk0 Try.prog Try.f32) 0)).map noU = some [.i 0 (.il 0)] := by kernel_rfl
set_option maxRecDepth 100000 in
theorem tk_loop : Code.loop (lpBody (Sy.sub tkP (bodyOf Try.f32))) = Sy.sub tkP (bodyOf Try.f32) := by kernel_rfl
set_option maxRecDepth 100000 in
theorem tk_run1 : shR 50 (some (tkT Try.prog Try.f32)) (tk1 Try.prog Try.f32) = some
    [(.out 0 .ret [(.not gH), (.lt (.iv 0) (.tb .len (.cv 0) (.il 0) (.il 0))), (.le (.iv 0) (.tb .len (.cv 0) (.il 0) (.il 0)))]), (.back [(.i 0 (.add (.iv 0) (.il 1)))] [gH, (.lt (.iv 0) (.tb .len (.cv 0) (.il 0) (.il 0))), (.le (.iv 0) (.tb .len (.cv 0) (.il 0) (.il 0)))]), (.out 2 (.exit 0) [(.not (.lt (.iv 0) (.tb .len (.cv 0) (.il 0) (.il 0)))), (.le (.iv 0) (.tb .len (.cv 0) (.il 0) (.il 0)))])] := by kernel_rfl
set_option maxRecDepth 100000 in
theorem tk_ret : retS Try.prog (lfAt (tk1 Try.prog Try.f32) 0) Try.f32.results.toList = some tkV := by kernel_rfl
set_option maxRecDepth 100000 in
theorem tk_hp : (lfAt (tk1 Try.prog Try.f32) 0).hp = tkHp := by kernel_rfl
def tkVn : SV := .tup [.c (.int .i64 (.il 0)), .agg [.int .u32 (.il 0), .int .i64 (.il 0)], .c (.int .i64 (.il 14))]
set_option maxRecDepth 100000 in
theorem tk_fin : smR Try.prog Try.f32 50 (run Try.prog [drSp] 10 400 50 (.code (aft (.exit 0) tkP (bodyOf Try.f32))) (lfAt (tk1 Try.prog Try.f32) 2)) = some
    [(.ret tkVn [blO true, wtW] [(.not (.lt (.iv 0) (.tb .len (.cv 0) (.il 0) (.il 0)))), (.le (.iv 0) (.tb .len (.cv 0) (.il 0) (.il 0)))])] := by kernel_rfl
/-- A backlog told anew (its table may be the old one). -/
def BlNewT (w : World) (g0 g c : Nat) (m : Int) (l : List (List Value)) (w' : World) : Prop := ∃ g' c', Blk w' g0 121 [.int .i64 m, sltV g' c' l.length] ∧ RowT w' g' c' 125 wtLv l ∧ (c' = 0 ∨ (c ≠ 0 ∧ g' = g) ∨ w.heap.size ≤ g') ∧ Only (fun x => x = g0 ∨ (c ≠ 0 ∧ x = g)) w w'
structure TkI (rows : List (List Value)) (m : Int) (ρ : Env) : Prop where
  b : LpI rows 0 0 m ρ
  f : ρ.f = lsF
  no : ∀ j, j < (ρ.i 0).toNat → gB (rows.getD j []) 2 = true
section
variable {rows : List (List Value)} {a p m : Int}
theorem TkI.cx (hn : rows.length ≤ 3000) {ρ : Env} (I : TkI rows m ρ) : tkCx.ok ρ := by
  have j0 := I.b.j0
  have jn := I.b.jn
  have c0 : (ρ.c 0).length = rows.length := by rw [I.b.c0]
  refine cxP ⟨?_, ?_, I.b.bs (by omega) ⟨by decide, by decide, by decide, by decide⟩⟩ ⟨?_, trivial⟩
  · show (0 : Int) ≤ ρ.i 0 ∧ ρ.i 0 ≤ 4000
    omega
  · show (0 : Int) ≤ (((ρ.c 0).length : Nat) : Int) ∧ (((ρ.c 0).length : Nat) : Int) ≤ 3000
    omega
  · rw [t_le]; show ρ.i 0 ≤ (((ρ.c 0).length : Nat) : Int); omega
def tkVal (l : List (List Value)) : Value := .tuple #[.int .i64 (tkD l 3).i, .agg #[.int .u32 (tkD l 0).i, .int .i64 (tkD l 1).i], .int .i64 (tkD l 4).i]
set_option maxRecDepth 100000 in
set_option maxHeartbeats 1000000 in
theorem tk_calls {w : World} {g0 g c : Nat} (hB : Blk w g0 121 [.int .i64 m, sltV g c rows.length]) (hT : RowT w g c 125 wtLv rows) (hn : rows.length ≤ 3000) (hne : c ≠ 0 → g0 ≠ g) :
    Calls Try.prog 32 #[.pointer (some ⟨g0, 0, none⟩)] w (RetP fun v w' => v = tkVal rows ∧ BlNewT w g0 g c m (tkL rows) w') := by
  have he : EnOk 0 0 := ⟨by decide, by decide, by decide, by decide⟩
  have hM0 : Md (lsEnv lsF rows 0 0 m) (fun x => x = g0 ∨ (c ≠ 0 ∧ x = g)) w (ixB g c g0) 50 tkSt (ixB g c g0) ⟨#[], []⟩ w := by
    refine Sy.Md.init ⟨?_, hT, trivial⟩ ⟨⟨fun _ hr => hne (hr.resolve_left (by simp [wtW, Bk.nilable, Xt.isTab])), trivial⟩, trivial, trivial⟩ ⟨fun h _ => .inl rfl, fun _ hr => .inr ⟨hr.resolve_left (by simp [wtW, Bk.nilable, Xt.isTab]), rfl⟩, trivial⟩ ⟨fun x hx => (List.mem_cons.1 hx).elim (fun e => by rw [e]; show (0 : Int) ≤ ((rows.length : Nat) : Int) ∧ ((rows.length : Nat) : Int) ≤ 3000; omega) (ls_bs (F := lsF) (m := m) (by omega) he ⟨fun _ _ => rfl, rfl, rfl, rfl, rfl, rfl⟩ x), fun t ht => by cases ht⟩ rfl
    show Blk w g0 _ [.int .i64 m, sltZ g c 4 0 rows.length 0]
    rw [sltZ_zero]
    exact hB
  have hsp : ∀ ρ : Env, ρ.f = lsF → ∀ q ∈ [drSp], Sy.Spec.Ok Try.prog ρ q := fun ρ hf q hq => by rw [List.mem_singleton.1 hq]; exact drSp_ok hf
  refine calls_pre (B := ⟨lsEnv lsF rows 0 0 m, fun x => x = g0 ∨ (c ≠ 0 ∧ x = g), w, ixB g c g0, 50⟩) (sp := [drSp]) (p := tkP) (xs := mnA) (s := tkSt) (r := tk0 Try.prog Try.f32) (fun i => rfl) (hsp _ rfl) rfl Try.func32 rfl rfl tk_run0 hM0 ?_ rfl
  refine ⟨?_, trivial⟩
  intro hpc β ac w1 hM1
  show (Sy.sub tkP (bodyOf Try.f32)).wp Try.prog _ ac w1
  rw [← tk_loop]
  have hI1 : ∀ u, TkI rows m { (lsEnv lsF rows 0 0 m).sub β [.i 0 (.il 0)] with u := u } := fun u => by
    refine ⟨⟨fun i => rfl, fun n h0 h1 => ?_, rfl, Int.le_refl 0, show (0 : Int) ≤ _ by omega⟩, rfl, fun j hj => absurd hj (by show ¬ j < (0 : Int).toNat; omega)⟩
    match n with
    | 0 => exact absurd rfl h0
    | n + 1 => rfl
  obtain ⟨u, β', hM3⟩ := Sy.Md.enter hM1 tk_match fun u => (hI1 u).cx hn
  refine loop_wp (w0 := w) (r := tk1 Try.prog Try.f32) rfl tk_run1 (TkI rows m) (fun ρ => rows.length - (ρ.i 0).toNat) (fun ρ I => I.b.g) (fun ρ I => hsp ρ I.f) (fun ρ I => I.cx hn) ?_ (hI1 u) hM3
  intro ρ I
  have j0 := I.b.j0
  have jn := I.b.jn
  have c0 := I.b.c0
  refine ⟨?_, ?_, ?_, trivial⟩
  · intro hpc β ac w' hM
    replace hpc : pcs ρ _ := hpc
    simp only [gH, pcs, t_lt, t_le, t_eq, t_not, t_and, i_iv, i_il, i_tl, i_get, b_get, c_cv, c0, gI_def, gB_def, and_true] at hpc
    have hlt : (ρ.i 0).toNat < rows.length := by omega
    have hi : tkIx rows = ((ρ.i 0).toNat : Int) := ixOf_some hlt (fun j hj => by rw [I.no j hj]; rfl) (by simpa using hpc.1)
    have hneg : ¬ tkIx rows < 0 := by rw [hi]; omega
    have hrow : tkRow rows = rows.getD (ρ.i 0).toNat [] := by unfold tkRow; rw [hi, Int.toNat_natCast]
    refine ctx_ret (P := Try.prog) tkP (bodyOf Try.f32) _ (ret_post (B := ⟨ρ, fun x => x = g0 ∨ (c ≠ 0 ∧ x = g), w, ixB g c g0, 50⟩) hM tk_ret ⟨?_, ?_⟩)
    · show Value.tuple #[.int .i64 (gI .i64 ((ρ.c 0).getD (ρ.i 0).toNat []) 3), .agg #[.int .u32 (gI .u32 ((ρ.c 0).getD (ρ.i 0).toNat []) 0), .int .i64 (gI .i64 ((ρ.c 0).getD (ρ.i 0).toNat []) 1)], .int .i64 0] = _
      rw [c0]
      unfold tkVal tkD
      simp only [if_neg hneg, hrow]
      rfl
    · have hd : (den ρ (.ap 48 (.cv 0) (enY gU gP) (.il 0))).c = tkL rows := by
        show (ρ.f 48 _ _ _).c = _
        rw [I.f]
        show dropW (eA (den ρ (enY gU gP))) (eP (den ρ (enY gU gP))) (ρ.c 0) = _
        have ek : EnOk (den ρ gU).i (den ρ gP).i := by
          have h1 := gI_bd (k := .u32) ((ρ.c 0).getD (ρ.i 0).toNat []) 0
          have h2 := gI_bd (k := .i64) ((ρ.c 0).getD (ρ.i 0).toNat []) 1
          exact ⟨h1.1, h1.2, h2.1, h2.2⟩
        rw [eA_ok ek, eP_ok ek]
        show dropW (gI .u32 ((ρ.c 0).getD (ρ.i 0).toNat []) 0) (gI .i64 ((ρ.c 0).getD (ρ.i 0).toNat []) 1) (ρ.c 0) = _
        rw [c0]
        unfold tkL
        rw [if_neg hneg, hrow]
      have hm1 : blN 0 72 (.iv 24) (.ap 48 (.cv 0) (enY gU gP) (.il 0)) ∈ (lfAt (tk1 Try.prog Try.f32) 0).hp := by rw [tk_hp]; exact List.mem_cons_of_mem _ (List.mem_cons_of_mem _ (List.mem_cons_of_mem _ (List.mem_cons_self ..)))
      have hm2 : wtN 72 (.ap 48 (.cv 0) (enY gU gP) (.il 0)) ∈ (lfAt (tk1 Try.prog Try.f32) 0).hp := by rw [tk_hp]; exact List.mem_cons_self ..
      have hb := hM.hp _ hm1
      have hb : Blk w' (β 0) 121 [.int .i64 (ρ.i 24), sltZ (β 72) (β 73) 4 0 (den ρ (.ap 48 (.cv 0) (enY gU gP) (.il 0))).c.length 0] := hb
      have ht := hM.hp _ hm2
      have ht : RowT w' (β 72) (β 73) 125 wtLv (den ρ (.ap 48 (.cv 0) (enY gU gP) (.il 0))).c := ht
      rw [hM.old 0 (show 0 < 50 by decide), sltZ_zero, I.b.i 24 (by decide) (by decide), hd] at hb
      rw [hd] at ht
      refine ⟨β 72, β 73, hb, ht, ?_, hM.only⟩
      by_cases hc : β 73 = 0
      · exact .inl hc
      · rcases hM.may _ hm2 rfl (.inr hc) with h | h
        · rcases (show β 72 = g0 ∨ _ from h) with h | h
          · have := hM.ne _ hm1 _ hm2 (show ¬ (0 = 72) by decide) (.inl rfl) (.inr hc)
            have this : β 0 ≠ β 72 := this
            rw [hM.old 0 (show 0 < 50 by decide)] at this
            exact absurd h.symm this
          · exact .inr (.inl h)
        · exact .inr (.inr h)
  · intro hpc β u
    replace hpc : pcs ρ _ := hpc
    simp only [gH, pcs, t_lt, t_le, t_eq, t_not, t_and, i_iv, i_il, i_tl, i_get, b_get, c_cv, c0, gI_def, gB_def, and_true] at hpc
    refine ⟨⟨I.b.next (fun n h0 h1 => ?_) rfl rfl rfl (by omega), I.f, ?_⟩, ?_⟩
    · match n with
      | 0 => exact absurd rfl h0
      | n + 1 => rfl
    · show ∀ j, j < (ρ.i 0 + 1).toNat → _
      intro j hj
      by_cases hji : j = (ρ.i 0).toNat
      · rw [hji]; exact hpc.1
      · exact I.no j (by omega)
    · show rows.length - (ρ.i 0 + 1).toNat < rows.length - (ρ.i 0).toNat; omega
  · intro hpc β ac w' hM
    replace hpc : pcs ρ _ := hpc
    simp only [pcs, t_lt, t_le, t_eq, t_not, t_and, i_iv, i_il, i_tl, i_get, b_get, c_cv, c0, gI_def, gB_def, and_true] at hpc
    have hi : tkIx rows = -1 := ixOf_none fun j hj => by rw [I.no j (by omega)]; rfl
    have hneg : tkIx rows < 0 := by rw [hi]; decide
    refine aft_fin (B := ⟨ρ, fun x => x = g0 ∨ (c ≠ 0 ∧ x = g), w, ixB g c g0, 50⟩) I.b.g (hsp ρ I.f) rfl (.exit 0) tk_fin ?_ hM
    refine ⟨?_, trivial⟩
    intro hpc2 β2 w2 hH
    refine ⟨?_, g, c, ?_, ?_, ?_, hH.only⟩
    · show Value.tuple #[.int .i64 0, .agg #[.int .u32 0, .int .i64 0], .int .i64 14] = _
      unfold tkVal tkD
      simp only [if_pos hneg]
      rfl
    · have hb := hH.hp _ (List.mem_cons_self ..)
      have hb : Blk w2 (β2 0) 121 [.int .i64 (ρ.i 24), sltZ (β2 40) (β2 41) 4 0 (ρ.c 0).length 0] := hb
      rw [hH.old 0 (show 0 < 50 by decide), hH.old 40 (show 40 < 50 by decide), hH.old 41 (show 41 < 50 by decide), sltZ_zero, I.b.i 24 (by decide) (by decide), c0] at hb
      unfold tkL
      rw [if_pos hneg]
      exact hb
    · have ht := hH.hp _ (List.mem_cons_of_mem _ (List.mem_cons_self ..))
      have ht : RowT w2 (β2 40) (β2 41) 125 wtLv (ρ.c 0) := ht
      rw [hH.old 40 (show 40 < 50 by decide), hH.old 41 (show 41 < 50 by decide), c0] at ht
      unfold tkL
      rw [if_pos hneg]
      exact ht
    · by_cases hc : c = 0
      · exact .inl hc
      · exact .inr (.inl ⟨hc, rfl⟩)
theorem tkL_len (l : List (List Value)) : (tkL l).length ≤ l.length := by
  unfold tkL
  split
  · exact Nat.le_refl _
  · exact List.length_filter_le ..
end
/-- The reference's backlog told anew. -/
theorem chg_blT {ρ : Env} {β : Bn} {w w' : World} {s : Sy.St} {l lt : Nat} {t m nt : Tm} (O : OwnBl ρ β w s l lt t m) (hl : l < s.nx) (h : BlNewT w (β l) (β lt) (β (lt + 1)) (den ρ m).i (den ρ nt).c w') : ∃ β', Chg ρ β β' w w' s [lt] [blN l s.nx m nt] [wtN s.nx nt] ∧ ∀ v, v < s.nx → β' v = β v := by
  obtain ⟨g', c', h1, h2, h3, h4⟩ := h
  obtain ⟨d, hd, dl, dn⟩ := O.tab
  have hold : ∀ v, v < s.nx → upd (upd β s.nx g') (s.nx + 1) c' v = β v := fun v hv => by rw [upd_old (by omega), upd_old (by omega)]
  have e0 : upd (upd β s.nx g') (s.nx + 1) c' s.nx = g' := by rw [upd_old (by omega), upd_new]
  have e1 : upd (upd β s.nx g') (s.nx + 1) c' (s.nx + 1) = c' := upd_new _ _ _
  refine ⟨upd (upd β s.nx g') (s.nx + 1) c', ⟨h4.mono fun k _ hk => ?_, hold, fun b hb => ?_, fun b hb => ?_, fun b hb hr => ?_, fun x hx y hy hxy => ?_⟩, hold⟩
  · rcases hk with hk | ⟨hc, hk⟩
    · exact .inl ⟨_, List.mem_cons_self .., hk⟩
    · exact .inr ⟨d, hd, by rw [dl]; exact List.mem_cons_self .., .inr (by rw [dl]; exact hc), by rw [dl]; exact hk⟩
  · rw [List.mem_singleton.1 hb]
    show Blk w' (upd (upd β s.nx g') (s.nx + 1) c' l) _ [.int .i64 (den ρ m).i, sltZ (upd (upd β s.nx g') (s.nx + 1) c' s.nx) (upd (upd β s.nx g') (s.nx + 1) c' (s.nx + 1)) 4 0 (den ρ nt).c.length 0]
    rw [hold l hl, e0, e1, sltZ_zero]
    exact h1
  · rw [List.mem_singleton.1 hb]
    show RowT w' (upd (upd β s.nx g') (s.nx + 1) c' s.nx) (upd (upd β s.nx g') (s.nx + 1) c' (s.nx + 1)) _ wtLv (den ρ nt).c
    rw [e0, e1]
    exact h2
  · rw [List.mem_singleton.1 hb] at hr ⊢
    have hr : upd (upd β s.nx g') (s.nx + 1) c' (s.nx + 1) ≠ 0 := hr.resolve_left (by simp [wtN, Bk.nilable, Xt.isTab])
    rcases h3 with h3 | ⟨hc, h3⟩ | h3
    · exact absurd (e1.trans h3) hr
    · exact .inl ⟨d, hd, by rw [dl]; exact List.mem_cons_self .., .inr (by rw [dl]; exact hc), by rw [dl]; exact e0.trans h3⟩
    · refine .inr ?_
      show _ ≤ upd (upd β s.nx g') (s.nx + 1) c' s.nx
      rw [e0]
      exact h3
  · rw [List.mem_singleton.1 hx, List.mem_singleton.1 hy] at hxy
    exact absurd rfl hxy
def tkSel (s : Sy.St) : List SV → Option Did
  | [.one (.c (.ptr l 0))] => match ownBl s l with
    | some (ms, lt, t, m) => if Nat.blt l s.nx then some ⟨ms ++ need s.cx (.le (mkTL s.cx t) (.il 3000)), [lt], [blN l s.nx m (.ap 51 t (.il 0) (.il 0))], [wtN s.nx (.ap 51 t (.il 0) (.il 0))], .tup [.c (.int .i64 (.ap 50 t (.il 0) (.il 3))), .agg [.int .u32 (.ap 50 t (.il 0) (.il 0)), .int .i64 (.ap 50 t (.il 0) (.il 1))], .c (.int .i64 (.ap 50 t (.il 0) (.il 4)))], [⟨tlen (.ap 51 t (.il 0) (.il 0)), 0, 3000⟩]⟩ else none
    | none => none
  | _ => none
def tkSp : Sy.Spec := chgSp 32 tkSel
theorem tkSp_ok {ρ : Env} (hf : ρ.f = lsF) : tkSp.Ok Try.prog ρ := by
  refine chgSp_ok fun {s xs d} hs hc hm {β w} hb hne => ?_
  unfold tkSel at hs
  split at hs
  · rename_i l
    split at hs
    · rename_i ms lt t m ho
      split at hs
      · rename_i ql
        injection hs with hs
        subst hs
        have O := ownBl_ok (β := β) ho hc hm.l hb hne
        have hlen := le_of (need_ok hc hm.r)
        rw [mkTL_ok hc] at hlen
        change _ ≤ (3000 : Int) at hlen
        have e : (den ρ (.ap 51 t (.il 0) (.il 0))).c = tkL (den ρ t).c := by
          show (ρ.f 51 _ _ _).c = _
          rw [hf]
          rfl
        have ed (f : Int) : den ρ (.ap 50 t (.il 0) (.il f)) = tkD (den ρ t).c f := by
          show ρ.f 50 _ _ _ = _
          rw [hf]
          rfl
        refine ⟨fun y hy => ?_, (tk_calls O.blk O.row (by omega) O.ne).mono ?_⟩
        · rw [List.mem_singleton.1 hy]
          show (0 : Int) ≤ ((den ρ (.ap 51 t (.il 0) (.il 0))).c.length : Int) ∧ ((den ρ (.ap 51 t (.il 0) (.il 0))).c.length : Int) ≤ 3000
          rw [e]
          have h1 := tkL_len (den ρ t).c
          have h2 := O.len
          omega
        · rintro e' w' ⟨v, rfl, rfl, hbl⟩
          rw [← e] at hbl
          obtain ⟨β', hC, _⟩ := chg_blT O (blt_lt ql) hbl
          refine ⟨β', ?_, hC⟩
          show _ = Ending.returned (.tuple #[.int .i64 (den ρ (.ap 50 t (.il 0) (.il 3))).i, .agg #[.int .u32 (den ρ (.ap 50 t (.il 0) (.il 0))).i, .int .i64 (den ρ (.ap 50 t (.il 0) (.il 1))).i], .int .i64 (den ρ (.ap 50 t (.il 0) (.il 4))).i])
          rw [ed, ed, ed, ed]
          rfl
      · cases hs
    · cases hs
  · cases hs
end Go.Proofs.Ytnjpoidpfcfbeaa
