/- Laws over a list of steps: the loop, its rows; what is left for each law is a round from the row on. -/
import Derived.Test.YtnmfmjlpfhdgeaaSyO
namespace Go.Proofs.Ytnmfmjlpfhdgeaa
namespace Sy
open Go Go.RowKit Go.BigFrame
set_option linter.unusedVariables false
set_option linter.unusedSimpArgs false

def stZ (P : Program) (t : TypeId) : List C := (zeroS P t).getD []
/-- The cells of a step: letters from 100 on. -/
def xC : List C := leafC 100 0 stepLeaves
/-- The rounds of a law over steps; p: the place of 'for' in the function. -/
def saysB (fn : Func) (p : List Nat) : Code := lpBody (Sy.sub (p ++ [1, 2]) (bodyOf fn))
def rowP : List Nat := [1, 1, 0, 2, 0]
def saysHd (P : Program) (fn : Func) (p : List Nat) (T : St) (n0 : Nat) : Rs := run P [] 10 400 n0 (.code (pre rowP (saysB fn p))) T
def saysX (P : Program) (fn : Func) (p : List Nat) (T : St) (n0 : Nat) (nr : Nat) (d1 d2 d3 : Tmp) : St := rowSt (lfAt (saysHd P fn p T n0) 0) nr 45 xC 1025 d1 d2 d3
/-- What the kernel shows of such a law. x0: the slot of the steps; vx, vl, vi: of the copy, the length, the place; d1, d2, d3: of the row; nr: the letter of the row's box. -/
structure SaysCode (P : Program) (fn : Func) (p : List Nat) (T : St) (n0 nr : Nat) (x0 vx vl vi d1 d2 d3 : Tmp) : Prop where
  rg4 : ∃ o1 o2 o3 : Oper, Sy.sub (p ++ [0]) (bodyOf fn) = .region (rgId (Sy.sub (p ++ [0]) (bodyOf fn))) #[o1, o2, o3] false ∧ (o1.op = .move (.tmp x0) ∧ o1.dst = some vx ∧ o1.guard = none) ∧ (o2.op = .call ⟨.builtin .len, #[.tmp vx], #[22]⟩ ∧ o2.dst = some vl ∧ o2.guard = none) ∧ (o3.op = .move (.const (.int .i64 0)) ∧ o3.dst = some vi ∧ o3.guard = none)
  at_ : Sy.sub p (bodyOf fn) = .seq (Sy.sub (p ++ [0]) (bodyOf fn)) (.block 0 (.loop (saysB fn p)))
  hd : shR n0 none (saysHd P fn p T n0) = some [.out 0 .normal (.lt (.iv 0) (.iv 1) :: T.cx.pc), .out 1 (.exit 0) (.not (.lt (.iv 0) (.iv 1)) :: T.cx.pc)]
  row : RowOps (rgId (Sy.sub rowP (saysB fn p))) (Sy.sub rowP (saysB fn p)) 22 45 vx vi d1 d2 d3
  lo1 : lowSt 100 (lfAt (saysHd P fn p T n0) 0) = true
  any1 : noAny 1025 (lfAt (saysHd P fn p T n0) 0).tm = true
  tx : (lfAt (saysHd P fn p T n0) 0).tm[vx]? = some (.one (.c (.opq 0)))
  ti : (lfAt (saysHd P fn p T n0) 0).tm[vi]? = some (.one (.c (.int .i64 (.iv 0))))
  hnr : n0 ≤ nr
  free : (row2 (lfAt (saysHd P fn p T n0) 0) xC 1025 d1 d2).free nr = true
  e1 : (row1 (lfAt (saysHd P fn p T n0) 0) 1025 d1).tm[d1]? = some (.any 1025)
  e2 : (row2 (lfAt (saysHd P fn p T n0) 0) xC 1025 d1 d2).tm[d2]? = some (.one (.agg xC))
  e3 : (((row2 (lfAt (saysHd P fn p T n0) 0) xC 1025 d1 d2).new nr 45 xC).put (some d3) (.one (.c (.ptr nr 0)))).tm[d3]? = some (.one (.c (.ptr nr 0)))
  e4 : (((row2 (lfAt (saysHd P fn p T n0) 0) xC 1025 d1 d2).new nr 45 xC).put (some d3) (.one (.c (.ptr nr 0)))).tm[d2]? = some (.one (.agg xC))
  out : outB 0 rowP (saysB fn p) = true
  uS : P.underlying 22 = some (.slice 45)
  uE : ∃ d, P.underlying 45 = some d ∧ d.isRow = true
  inf : (P.info? 45).map (·.size) = some 45
  zero : zeroS P 45 = some (stZ P 45)
  zlen : (stZ P 45).length = xC.length
theorem xC_len : xC.length = 45 := rfl
theorem says_len_op {P : Program} {w : World} {a : Option Addr} {len cap : Nat} {t e ty : TypeId} (ht : P.underlying t = some (.slice e)) : (Builtin.len_ #[t] ty #[.slice a len cap]).run P w = .ok (.int .i64 (len : Int)) w := by
  simp only [Builtin.len_, List.getElem?_toArray, List.getElem?_cons_zero, Sem.run_bind, run_underlying ht, Result.andThen_ok, Sem.run_pure]
  rfl
def saysMu (ρ : Env) : Nat := (ρ.i 1 - ρ.i 0).toNat
/-- The state in which the rounds begin. -/
def saysIn (s : St) (vx vl vi : Tmp) : St := ((s.put (some vx) (.one (.c (.opq 0)))).put (some vl) (.one (.c (.int .i64 (.iv 1))))).put (some vi) (.one (.c (.int .i64 (.il 0))))
theorem says_round {P : Program} {fn : Func} {p : List Nat} {T : St} {n0 nr : Nat} {x0 vx vl vi d1 d2 d3 : Tmp} (L : SaysCode P fn p T n0 nr x0 vx vl vi d1 d2 d3) {S : Nat → Prop} {w0 : World} {β0 : Bn} {vs : Value} {len : Nat} {C : Nat → List Value}
    (hS : ∀ g, g < w0.heap.size → ¬ S g)
    (hC : ∀ i, i < len → ∃ b off cap, vs = .slice (some ⟨b, off, none⟩) len cap ∧ leafAll stepLeaves (C i) ∧ w0.rangeAt b (off + i * 45) (C i)) {Q : Exit → Act → World → Prop} {I : Env → Prop}
    (hI : ∀ ρ, I ρ → ρ.good ∧ ρ.v 0 = vs ∧ 0 ≤ ρ.i 0 ∧ ρ.i 0 ≤ ρ.i 1 ∧ ρ.i 1 = (len : Int))
    (round : ∀ ρ, I ρ → ρ.i 0 < ρ.i 1 → ∀ cs, leafAll stepLeaves cs → ∀ u β a w, Md { ρ.hi 100 cs with u := u } S w0 β0 n0 (saysX P fn p T n0 nr d1 d2 d3) β a w → ctx P rowP (saysB fn p) (Exit.then (NextR S w0 β0 n0 T I saysMu (saysMu ρ)) Q) .normal a w)
    (fin : ∀ ρ, I ρ → ρ.i 0 = ρ.i 1 → ∀ β a w, Md ρ S w0 β0 n0 (lfAt (saysHd P fn p T n0) 1) β a w → Q (.exit 0) a w)
    {ρ : Env} (h : I ρ) {β : Bn} {a : Act} {w : World} (hM : Md ρ S w0 β0 n0 T β a w) : (saysB fn p).wp P (Exit.then (NextR S w0 β0 n0 T I saysMu (saysMu ρ)) Q) a w := by
  obtain ⟨hg, hv, hi0, hi1, hlen⟩ := hI ρ h
  refine part_pre (B := ⟨ρ, S, w0, β0, n0⟩) (sp := []) (p := rowP) (s := T) (r := saysHd P fn p T n0) hg (fun q hq => by cases hq) rfl rfl L.hd ⟨?_, ?_, trivial⟩ hM
  · intro hpc β a w1 hM1
    have hlt : ρ.i 0 < ρ.i 1 := by
      have := hpc.1
      rw [t_lt, i_iv, i_iv] at this
      exact this
    obtain ⟨k, hk⟩ : ∃ k : Nat, ρ.i 0 = (k : Int) := ⟨(ρ.i 0).toNat, by omega⟩
    have hkl : k < len := by omega
    obtain ⟨b, off, cap, hvl, hleaf, hr0⟩ := hC k hkl
    have hb : b < w0.heap.size := by
      have hl := leafAll_length hleaf
      cases hc : C k with
      | nil => rw [hc] at hl; cases hl
      | cons v vs' => exact World.block_lt_of_cell? w0 _ (hr0 0 v (by rw [hc]; rfl))
    have hr1 : w1.rangeAt b (off + k * 45) (C k) := hM1.only.range hr0 (hS b hb)
    have M2 := Sy.Md.hi hM1 100 (C k) L.lo1
    have M3 := Sy.Md.setU M2 1025 (.pointer (some ⟨b, off + k * 45, none⟩)) L.any1
    have hden : denL { ρ.hi 100 (C k) with u := fun n => if n = 1025 then .pointer (some ⟨b, off + k * 45, none⟩) else (ρ.hi 100 (C k)).u n } β xC = C k := by
      rw [denL_u]
      exact leafC_den hleaf (fun i x hx => by rw [Nat.zero_add]; exact hx)
    obtain ⟨d, hd1, hd2⟩ := L.uE
    show (Sy.sub rowP (saysB fn p)).wp P (ctx P rowP (saysB fn p) _) a w1
    refine row_wp (show Env.good { ρ.hi 100 (C k) with u := fun n => if n = 1025 then .pointer (some ⟨b, off + k * 45, none⟩) else (ρ.hi 100 (C k)).u n } from hg) M3 L.row (b := b) (off := off) (len := len) (cap := cap) (k := k) (m := 1025) (n := nr) (cs := xC) L.tx (hv.trans hvl) L.ti (by show Value.int .i64 (ρ.i 0) = _; rw [hk]) hkl (by rw [xC_len]; rfl) (by rw [xC_len, hden]; exact hr1) L.uS hd1 hd2 (by rw [xC_len]; exact L.inf) L.zero L.zlen L.hnr L.free rfl L.e1 L.e2 L.e3 L.e4 ?_
    intro β2 a2 w2 M4
    exact round ρ h hlt (C k) hleaf _ β2 a2 w2 M4
  · intro hpc β a w1 hM1
    have hge : ¬ ρ.i 0 < ρ.i 1 := by
      have := hpc.1
      rw [t_not, t_lt, i_iv, i_iv] at this
      exact this
    exact ⟨outB_ok 0 _ _ L.out, fin ρ h (by omega) β a w1 hM1⟩
/-- THE LOOP, from the region ahead of it on. -/
theorem says_loop {P : Program} {fn : Func} {p : List Nat} {T : St} {n0 nr : Nat} {x0 vx vl vi d1 d2 d3 : Tmp} (L : SaysCode P fn p T n0 nr x0 vx vl vi d1 d2 d3) {S : Nat → Prop} {w0 : World} {β0 : Bn} {a0 : Option Addr} {len cap : Nat} {C : Nat → List Value}
    (hS : ∀ g, g < w0.heap.size → ¬ S g)
    (hC : ∀ i, i < len → ∃ b off cap', Value.slice a0 len cap = .slice (some ⟨b, off, none⟩) len cap' ∧ leafAll stepLeaves (C i) ∧ w0.rangeAt b (off + i * 45) (C i)) {Q : Exit → Act → World → Prop} {I : Env → Prop}
    (hI : ∀ ρ, I ρ → ρ.good ∧ ρ.v 0 = .slice a0 len cap ∧ 0 ≤ ρ.i 0 ∧ ρ.i 0 ≤ ρ.i 1 ∧ ρ.i 1 = (len : Int))
    (round : ∀ ρ, I ρ → ρ.i 0 < ρ.i 1 → ∀ cs, leafAll stepLeaves cs → ∀ u β a w, Md { ρ.hi 100 cs with u := u } S w0 β0 n0 (saysX P fn p T n0 nr d1 d2 d3) β a w → ∀ Q, ctx P rowP (saysB fn p) (Exit.then (NextR S w0 β0 n0 T I saysMu (saysMu ρ)) Q) .normal a w)
    (fin : ∀ ρ, I ρ → ρ.i 0 = ρ.i 1 → ∀ β a w, Md ρ S w0 β0 n0 (lfAt (saysHd P fn p T n0) 1) β a w → ctx P (p ++ [1]) (bodyOf fn) Q .normal a w)
    {ρ : Env} (hv : ρ.v 0 = .slice a0 len cap) (hi1 : ρ.i 1 = (len : Int)) {s : St} (hx0 : s.tm[x0]? = some (.one (.c (.opq 0)))) (hx1 : (s.put (some vx) (.one (.c (.opq 0)))).tm[vx]? = some (.one (.c (.opq 0)))) (hok : okP p (bodyOf fn) = true)
    (enter : ∀ β a w, Md ρ S w0 β0 n0 (saysIn s vx vl vi) β a w → ∃ ρ' β', I ρ' ∧ Md ρ' S w0 β0 n0 T β' a w) {β : Bn} {a : Act} {w : World} (hM : Md ρ S w0 β0 n0 s β a w) : (Sy.sub p (bodyOf fn)).wp P (ctx P p (bodyOf fn) Q) a w := by
  obtain ⟨o1, o2, o3, hc, ⟨p1, t1, g1⟩, ⟨p2, t2, g2⟩, ⟨p3, t3, g3⟩⟩ := L.rg4
  have hat := L.at_
  rw [hat]
  rw [hc] at hat ⊢
  refine wp_seq (wp_region_list ?_)
  show wpList _ _ _ [o1, o2, o3] a w
  have M1 := Sy.Md.put hM (some vx) (.one (.c (.opq 0)))
  have M2 := Sy.Md.put M1 (some vl) (.one (.c (.int .i64 (.iv 1))))
  have M3 := Sy.Md.put M2 (some vi) (.one (.c (.int .i64 (.il 0))))
  refine wpList_val (v := .slice a0 len cap) (w' := w) g1 ?_ ?_
  · have := Sy.Md.opd hM (x := .tmp x0) hx0
    unfold execOp
    simp only [p1, this, Sem.run_bind, Sem.run_pure, Result.andThen_ok]
    show Result.ok (Next.value (ρ.v 0)) w = _
    rw [hv]
  rw [t1]
  have hd1 : (SV.one (.c (.opq 0))).den ρ β = .slice a0 len cap := hv
  rw [hd1] at M1 M2 M3
  refine wpList_val (v := .int .i64 (len : Int)) (w' := w) g2 ?_ ?_
  · have := (Sy.Md.opd M1 (x := .tmp vx) hx1).trans hd1
    unfold execOp
    simp only [p2, resolve, invoke, builtin, Sem.run_bind, Sem.run_pure, Result.andThen_ok, List.map_toArray, List.map_cons, List.map_nil, this, says_len_op L.uS]
  rw [t2]
  have hd2 : (SV.one (.c (.int .i64 (.iv 1)))).den ρ β = .int .i64 (len : Int) := by show Value.int .i64 (ρ.i 1) = _; rw [hi1]
  rw [hd2] at M2 M3
  refine wpList_val (v := .int .i64 0) (w' := w) g3 ?_ ?_
  · unfold execOp
    simp only [p3, Act.eval, Sem.run_bind, Sem.run_pure, Result.andThen_ok]
  rw [t3]
  refine wpList_nil ?_
  obtain ⟨ρ', β', hI', hM'⟩ := enter β _ w M3
  show (Code.block 0 (.loop (saysB fn p))).wp P (ctx P p (bodyOf fn) Q) _ w
  refine wp_block ?_
  refine loop_round (w0 := w0) (T := T) I saysMu (fun ρ hI1 β a w hM => says_round L hS hC hI (fun ρ h1 h2 cs h3 u β a w h4 => round ρ h1 h2 cs h3 u β a w h4 _) (fun ρ h1 h2 β a w h3 => ?_) hI1 hM) hI' hM'
  have := fin ρ h1 h2 β a w h3
  have hsub : ∀ (p : List Nat) (c : Code) (Q : Exit → Act → World → Prop) (x y : Code), sub p c = .seq x y → okP p c = true → ∀ e a w, ctx P (p ++ [1]) c Q e a w → ctx P p c Q e a w := by
    intro p
    induction p with
    | nil =>
      intro c Q x y h _ e a w hc
      change c = _ at h
      subst h
      exact hc
    | cons d p ih =>
      intro c Q x y h hk e a w hc
      rcases d with _ | _ | _ | d
      · cases c <;> try (cases hk; done)
        exact ih _ _ _ _ h hk e a w hc
      · cases c <;> try (cases hk; done)
        exact ih _ _ _ _ h hk e a w hc
      · cases c <;> try (cases hk; done)
        · exact ih _ _ _ _ h hk e a w hc
        · exact ih _ _ _ _ h hk e a w hc
      · cases c <;> cases hk
  exact hsub p _ _ _ _ hat hok _ _ _ this
theorem says_roundG {P : Program} {fn : Func} {p : List Nat} {T : St} {n0 nr : Nat} {x0 vx vl vi d1 d2 d3 : Tmp} (L : SaysCode P fn p T n0 nr x0 vx vl vi d1 d2 d3) {S : Nat → Prop} {w0 : World} {β0 : Bn} {vs : Value} {len : Nat} {C : Nat → List Value} {G : List Value → Prop}
    (hS : ∀ g, g < w0.heap.size → ¬ S g)
    (hC : ∀ i, i < len → ∃ b off cap, vs = .slice (some ⟨b, off, none⟩) len cap ∧ (leafAll stepLeaves (C i) ∧ G (C i)) ∧ w0.rangeAt b (off + i * 45) (C i)) {Q : Exit → Act → World → Prop} {I : Env → Prop}
    (hI : ∀ ρ, I ρ → ρ.good ∧ ρ.v 0 = vs ∧ 0 ≤ ρ.i 0 ∧ ρ.i 0 ≤ ρ.i 1 ∧ ρ.i 1 = (len : Int))
    (round : ∀ ρ, I ρ → ρ.i 0 < ρ.i 1 → ∀ cs, (leafAll stepLeaves cs ∧ G cs) → ∀ u β a w, Md { ρ.hi 100 cs with u := u } S w0 β0 n0 (saysX P fn p T n0 nr d1 d2 d3) β a w → ctx P rowP (saysB fn p) (Exit.then (NextR S w0 β0 n0 T I saysMu (saysMu ρ)) Q) .normal a w)
    (fin : ∀ ρ, I ρ → ρ.i 0 = ρ.i 1 → ∀ β a w, Md ρ S w0 β0 n0 (lfAt (saysHd P fn p T n0) 1) β a w → Q (.exit 0) a w)
    {ρ : Env} (h : I ρ) {β : Bn} {a : Act} {w : World} (hM : Md ρ S w0 β0 n0 T β a w) : (saysB fn p).wp P (Exit.then (NextR S w0 β0 n0 T I saysMu (saysMu ρ)) Q) a w := by
  obtain ⟨hg, hv, hi0, hi1, hlen⟩ := hI ρ h
  refine part_pre (B := ⟨ρ, S, w0, β0, n0⟩) (sp := []) (p := rowP) (s := T) (r := saysHd P fn p T n0) hg (fun q hq => by cases hq) rfl rfl L.hd ⟨?_, ?_, trivial⟩ hM
  · intro hpc β a w1 hM1
    have hlt : ρ.i 0 < ρ.i 1 := by
      have := hpc.1
      rw [t_lt, i_iv, i_iv] at this
      exact this
    obtain ⟨k, hk⟩ : ∃ k : Nat, ρ.i 0 = (k : Int) := ⟨(ρ.i 0).toNat, by omega⟩
    have hkl : k < len := by omega
    obtain ⟨b, off, cap, hvl, hleaf, hr0⟩ := hC k hkl
    have hb : b < w0.heap.size := by
      have hl := leafAll_length hleaf.1
      cases hc : C k with
      | nil => rw [hc] at hl; cases hl
      | cons v vs' => exact World.block_lt_of_cell? w0 _ (hr0 0 v (by rw [hc]; rfl))
    have hr1 : w1.rangeAt b (off + k * 45) (C k) := hM1.only.range hr0 (hS b hb)
    have M2 := Sy.Md.hi hM1 100 (C k) L.lo1
    have M3 := Sy.Md.setU M2 1025 (.pointer (some ⟨b, off + k * 45, none⟩)) L.any1
    have hden : denL { ρ.hi 100 (C k) with u := fun n => if n = 1025 then .pointer (some ⟨b, off + k * 45, none⟩) else (ρ.hi 100 (C k)).u n } β xC = C k := by
      rw [denL_u]
      exact leafC_den hleaf.1 (fun i x hx => by rw [Nat.zero_add]; exact hx)
    obtain ⟨d, hd1, hd2⟩ := L.uE
    show (Sy.sub rowP (saysB fn p)).wp P (ctx P rowP (saysB fn p) _) a w1
    refine row_wp (show Env.good { ρ.hi 100 (C k) with u := fun n => if n = 1025 then .pointer (some ⟨b, off + k * 45, none⟩) else (ρ.hi 100 (C k)).u n } from hg) M3 L.row (b := b) (off := off) (len := len) (cap := cap) (k := k) (m := 1025) (n := nr) (cs := xC) L.tx (hv.trans hvl) L.ti (by show Value.int .i64 (ρ.i 0) = _; rw [hk]) hkl (by rw [xC_len]; rfl) (by rw [xC_len, hden]; exact hr1) L.uS hd1 hd2 (by rw [xC_len]; exact L.inf) L.zero L.zlen L.hnr L.free rfl L.e1 L.e2 L.e3 L.e4 ?_
    intro β2 a2 w2 M4
    exact round ρ h hlt (C k) hleaf _ β2 a2 w2 M4
  · intro hpc β a w1 hM1
    have hge : ¬ ρ.i 0 < ρ.i 1 := by
      have := hpc.1
      rw [t_not, t_lt, i_iv, i_iv] at this
      exact this
    exact ⟨outB_ok 0 _ _ L.out, fin ρ h (by omega) β a w1 hM1⟩
/-- THE LOOP, from the region ahead of it on. -/
theorem says_loopG {P : Program} {fn : Func} {p : List Nat} {T : St} {n0 nr : Nat} {x0 vx vl vi d1 d2 d3 : Tmp} (L : SaysCode P fn p T n0 nr x0 vx vl vi d1 d2 d3) {S : Nat → Prop} {w0 : World} {β0 : Bn} {a0 : Option Addr} {len cap : Nat} {C : Nat → List Value} {G : List Value → Prop}
    (hS : ∀ g, g < w0.heap.size → ¬ S g)
    (hC : ∀ i, i < len → ∃ b off cap', Value.slice a0 len cap = .slice (some ⟨b, off, none⟩) len cap' ∧ (leafAll stepLeaves (C i) ∧ G (C i)) ∧ w0.rangeAt b (off + i * 45) (C i)) {Q : Exit → Act → World → Prop} {I : Env → Prop}
    (hI : ∀ ρ, I ρ → ρ.good ∧ ρ.v 0 = .slice a0 len cap ∧ 0 ≤ ρ.i 0 ∧ ρ.i 0 ≤ ρ.i 1 ∧ ρ.i 1 = (len : Int))
    (round : ∀ ρ, I ρ → ρ.i 0 < ρ.i 1 → ∀ cs, (leafAll stepLeaves cs ∧ G cs) → ∀ u β a w, Md { ρ.hi 100 cs with u := u } S w0 β0 n0 (saysX P fn p T n0 nr d1 d2 d3) β a w → ∀ Q, ctx P rowP (saysB fn p) (Exit.then (NextR S w0 β0 n0 T I saysMu (saysMu ρ)) Q) .normal a w)
    (fin : ∀ ρ, I ρ → ρ.i 0 = ρ.i 1 → ∀ β a w, Md ρ S w0 β0 n0 (lfAt (saysHd P fn p T n0) 1) β a w → ctx P (p ++ [1]) (bodyOf fn) Q .normal a w)
    {ρ : Env} (hv : ρ.v 0 = .slice a0 len cap) (hi1 : ρ.i 1 = (len : Int)) {s : St} (hx0 : s.tm[x0]? = some (.one (.c (.opq 0)))) (hx1 : (s.put (some vx) (.one (.c (.opq 0)))).tm[vx]? = some (.one (.c (.opq 0)))) (hok : okP p (bodyOf fn) = true)
    (enter : ∀ β a w, Md ρ S w0 β0 n0 (saysIn s vx vl vi) β a w → ∃ ρ' β', I ρ' ∧ Md ρ' S w0 β0 n0 T β' a w) {β : Bn} {a : Act} {w : World} (hM : Md ρ S w0 β0 n0 s β a w) : (Sy.sub p (bodyOf fn)).wp P (ctx P p (bodyOf fn) Q) a w := by
  obtain ⟨o1, o2, o3, hc, ⟨p1, t1, g1⟩, ⟨p2, t2, g2⟩, ⟨p3, t3, g3⟩⟩ := L.rg4
  have hat := L.at_
  rw [hat]
  rw [hc] at hat ⊢
  refine wp_seq (wp_region_list ?_)
  show wpList _ _ _ [o1, o2, o3] a w
  have M1 := Sy.Md.put hM (some vx) (.one (.c (.opq 0)))
  have M2 := Sy.Md.put M1 (some vl) (.one (.c (.int .i64 (.iv 1))))
  have M3 := Sy.Md.put M2 (some vi) (.one (.c (.int .i64 (.il 0))))
  refine wpList_val (v := .slice a0 len cap) (w' := w) g1 ?_ ?_
  · have := Sy.Md.opd hM (x := .tmp x0) hx0
    unfold execOp
    simp only [p1, this, Sem.run_bind, Sem.run_pure, Result.andThen_ok]
    show Result.ok (Next.value (ρ.v 0)) w = _
    rw [hv]
  rw [t1]
  have hd1 : (SV.one (.c (.opq 0))).den ρ β = .slice a0 len cap := hv
  rw [hd1] at M1 M2 M3
  refine wpList_val (v := .int .i64 (len : Int)) (w' := w) g2 ?_ ?_
  · have := (Sy.Md.opd M1 (x := .tmp vx) hx1).trans hd1
    unfold execOp
    simp only [p2, resolve, invoke, builtin, Sem.run_bind, Sem.run_pure, Result.andThen_ok, List.map_toArray, List.map_cons, List.map_nil, this, says_len_op L.uS]
  rw [t2]
  have hd2 : (SV.one (.c (.int .i64 (.iv 1)))).den ρ β = .int .i64 (len : Int) := by show Value.int .i64 (ρ.i 1) = _; rw [hi1]
  rw [hd2] at M2 M3
  refine wpList_val (v := .int .i64 0) (w' := w) g3 ?_ ?_
  · unfold execOp
    simp only [p3, Act.eval, Sem.run_bind, Sem.run_pure, Result.andThen_ok]
  rw [t3]
  refine wpList_nil ?_
  obtain ⟨ρ', β', hI', hM'⟩ := enter β _ w M3
  show (Code.block 0 (.loop (saysB fn p))).wp P (ctx P p (bodyOf fn) Q) _ w
  refine wp_block ?_
  refine loop_round (w0 := w0) (T := T) I saysMu (fun ρ hI1 β a w hM => says_roundG L hS hC hI (fun ρ h1 h2 cs h3 u β a w h4 => round ρ h1 h2 cs h3 u β a w h4 _) (fun ρ h1 h2 β a w h3 => ?_) hI1 hM) hI' hM'
  have := fin ρ h1 h2 β a w h3
  have hsub : ∀ (p : List Nat) (c : Code) (Q : Exit → Act → World → Prop) (x y : Code), sub p c = .seq x y → okP p c = true → ∀ e a w, ctx P (p ++ [1]) c Q e a w → ctx P p c Q e a w := by
    intro p
    induction p with
    | nil =>
      intro c Q x y h _ e a w hc
      change c = _ at h
      subst h
      exact hc
    | cons d p ih =>
      intro c Q x y h hk e a w hc
      rcases d with _ | _ | _ | d
      · cases c <;> try (cases hk; done)
        exact ih _ _ _ _ h hk e a w hc
      · cases c <;> try (cases hk; done)
        exact ih _ _ _ _ h hk e a w hc
      · cases c <;> try (cases hk; done)
        · exact ih _ _ _ _ h hk e a w hc
        · exact ih _ _ _ _ h hk e a w hc
      · cases c <;> cases hk
  exact hsub p _ _ _ _ hat hok _ _ _ this
end Sy
end Go.Proofs.Ytnmfmjlpfhdgeaa
