/- Cover of the program. -/
import Derived.Test.YtagdnjhkoajbnaaDoorCv4
import Derived.Test.YtagdnjhkoajbnaaDoorCv5
import Derived.Test.YtagdnjhkoajbnaaDoorCv0
import Derived.Test.YtagdnjhkoajbnaaDoorCv1
namespace Go.Proofs.YtagdnjhkoajbnaaDoor
open Go.RowKit Sy
set_option linter.unusedVariables false
set_option linter.unusedSimpArgs false

def coF : Nat → Dn → Dn → Dn → Dn := fun n x y z =>
  if n = 60 then dI ((Lib.ctz 64 x.i.toNat : Nat) : Int)
  else if n = 61 then dI ((Lib.bitLen x.i.toNat : Nat) : Int)
  else cvF n x y z
def coE (f t : Nat) : Int := if t < f then 1 else 0
def coRows (f t : Nat) : List (List Value) := if t < f then [] else pxRows (halve 32 0 f t)
def coBs : List Bd := [⟨.iv 2, 0, 4294967295⟩, ⟨.iv 3, 0, 4294967295⟩]
def coA : List SV := [.one (.c (.int .u32 (.iv 2))), .one (.c (.int .u32 (.iv 3)))]
def coSt : Sy.St := ⟨[], [], ⟨coBs, []⟩, 50⟩
def coP : List Nat := [1, 1, 1, 0, 1, 2]
def co0 (P : Program) (fn : Func) : Rs := run P [] 10 400 50 (.code (pre coP (bodyOf fn))) (enterS fn coA coSt)
def coS (P : Program) (fn : Func) : Sy.St := tabSlot (lfAt (co0 P fn) 1) 6 60 29 pxLv
def coTb : Bk := ⟨60, 29, [], true, none, .tab pxLv (.cv 1)⟩
def coCx : Cx := ⟨⟨.iv 0, 0, 4294967296⟩ :: ⟨.iv 4, 0, 4294967296⟩ :: ⟨tlen (.cv 1), 0, 4294967296⟩ :: coBs, [.le (.iv 4) (tlen (.cv 1)), .le (tlen (.cv 1)) (.iv 4)]⟩
def coB (fn : Func) : Code := lpBody (Sy.sub coP (bodyOf fn))
def coT (P : Program) (fn : Func) : Sy.St := tplS (coS P fn) (coB fn) [(7, .one (.c (.int .u64 (.iv 0)))), (6, .one (.c (.slt 60 2 (.il 0) (.iv 4) (.il 0))))] [coTb] coCx 70
def cR : List Nat := [1, 2, 0]
def co1 (P : Program) (fn : Func) : Rs := run P [] 10 400 50 (.code (pre cR (coB fn))) (coT P fn)
def c6 (fn : Func) : List Oper := opsOf (Sy.sub cR (coB fn))
def c6o (fn : Func) (k : Nat) : Oper := (c6 fn).getD k default
def tzT : Tm := .ap 60 (.bop .or .u64 (.iv 0) (.il 4294967296)) (.il 0) (.il 0)
def lnT : Tm := .ap 61 (.sub (.add (.iv 3) (.il 1)) (.iv 0)) (.il 0) (.il 0)
def adB (s : Sy.St) (b : Bd) : Sy.St := { s with cx := ⟨b :: s.cx.bs, s.cx.pc⟩ }
def s0 (P : Program) (fn : Func) : Sy.St := lfAt (co1 P fn) 0
def sA (P : Program) (fn : Func) : Sy.St := (pureL P ((c6 fn).take 2) (s0 P fn)).getD (s0 P fn)
def sB (P : Program) (fn : Func) : Sy.St := adB ((sA P fn).put (c6o fn 2).dst (.one (.c (.int .i64 tzT)))) ⟨tzT, 0, 32⟩
def sC (P : Program) (fn : Func) : Sy.St := (pureL P (((c6 fn).drop 3).take 3) (sB P fn)).getD (s0 P fn)
def sD (P : Program) (fn : Func) : Sy.St := adB ((sC P fn).put (c6o fn 6).dst (.one (.c (.int .i64 lnT)))) ⟨lnT, 1, 33⟩
def sE (P : Program) (fn : Func) : Sy.St := (pureL P ((c6 fn).drop 7) (sD P fn)).getD (s0 P fn)
def co2 (P : Program) (fn : Func) : Rs := run P [] 10 400 50 (.code (aft .normal cR (coB fn))) (sE P fn)
def mnT : Tm := .ite (.lt (.add lnT (.il (-1))) tzT) (.add lnT (.il (-1))) tzT
set_option maxRecDepth 100000 in
theorem co_run0 : shR 50 none (co0 Tryd.prog Tryd.f4) = some [.out 0 .ret [.lt (.iv 3) (.iv 2)], .out 1 .normal [.not (.lt (.iv 3) (.iv 2))]] := by kernel_rfl
set_option maxRecDepth 100000 in
theorem co_in : (matchS 50 (coT Tryd.prog Tryd.f4) (coS Tryd.prog Tryd.f4)).map noU = some [.i 4 (.il 0), .i 0 (.iv 2), .c 1 tn] := by kernel_rfl
set_option maxRecDepth 100000 in
theorem co_free : ((lfAt (co0 Tryd.prog Tryd.f4) 1).free 60, (lfAt (co0 Tryd.prog Tryd.f4) 1).free 61) = (true, true) := by kernel_rfl
set_option maxRecDepth 100000 in
theorem co_loop : Code.loop (coB Tryd.f4) = Sy.sub coP (bodyOf Tryd.f4) := by kernel_rfl
set_option maxRecDepth 100000 in
theorem co_cx : ((coT Tryd.prog Tryd.f4).cx, (s0 Tryd.prog Tryd.f4).cx.pc) = (coCx, [.lt (.iv 0) (.add (.iv 3) (.il 1)), .le (.iv 4) (tlen (.cv 1)), .le (tlen (.cv 1)) (.iv 4)]) := by kernel_rfl
set_option maxRecDepth 100000 in
theorem co_run1 : shR 50 none (co1 Tryd.prog Tryd.f4) = some [.out 0 .normal [.lt (.iv 0) (.add (.iv 3) (.il 1)), .le (.iv 4) (tlen (.cv 1)), .le (tlen (.cv 1)) (.iv 4)], .out 1 (.exit 0) [.not (.lt (.iv 0) (.add (.iv 3) (.il 1))), .le (.iv 4) (tlen (.cv 1)), .le (tlen (.cv 1)) (.iv 4)]] := by kernel_rfl
set_option maxRecDepth 100000 in
theorem co_out : outB 0 cR (coB Tryd.f4) = true := by kernel_rfl
set_option maxRecDepth 100000 in
theorem co_rg : Sy.sub cR (coB Tryd.f4) = .region (rgId (Sy.sub cR (coB Tryd.f4))) ((c6 Tryd.f4).take 2 ++ (c6o Tryd.f4 2 :: (((c6 Tryd.f4).drop 3).take 3 ++ (c6o Tryd.f4 6 :: ((c6 Tryd.f4).drop 7 ++ []))))).toArray false := by kernel_rfl
set_option maxRecDepth 100000 in
theorem co_sA : pureL Tryd.prog ((c6 Tryd.f4).take 2) (s0 Tryd.prog Tryd.f4) = some (sA Tryd.prog Tryd.f4) := by kernel_rfl
set_option maxRecDepth 100000 in
theorem co_tz : callAt (sA Tryd.prog Tryd.f4) (c6o Tryd.f4 2) = some (7, [.one (.c (.int .u64 (.bop .or .u64 (.iv 0) (.il 4294967296))))]) := by kernel_rfl
set_option maxRecDepth 100000 in
theorem co_sC : pureL Tryd.prog (((c6 Tryd.f4).drop 3).take 3) (sB Tryd.prog Tryd.f4) = some (sC Tryd.prog Tryd.f4) := by kernel_rfl
set_option maxRecDepth 100000 in
theorem co_ln : callAt (sC Tryd.prog Tryd.f4) (c6o Tryd.f4 6) = some (8, [.one (.c (.int .u64 (.sub (.add (.iv 3) (.il 1)) (.iv 0))))]) := by kernel_rfl
set_option maxRecDepth 100000 in
theorem co_sE : pureL Tryd.prog ((c6 Tryd.f4).drop 7) (sD Tryd.prog Tryd.f4) = some (sE Tryd.prog Tryd.f4) := by kernel_rfl
set_option maxRecDepth 100000 in
theorem co_run2 : shR 50 (some (coT Tryd.prog Tryd.f4)) (co2 Tryd.prog Tryd.f4) = some [.back [.i 4 (.add (tlen (.cv 1)) (.il 1)), .i 0 (.add (.iv 0) (.pw mnT)), .c 1 (.tb .app (.cv 1) (pxT (.iv 0) (.sub (.il 32) mnT)) (.il 0))] [.lt (.iv 0) (.add (.iv 3) (.il 1)), .le (.iv 4) (tlen (.cv 1)), .le (tlen (.cv 1)) (.iv 4)]] := by kernel_rfl
set_option maxRecDepth 100000 in
theorem co_fin : smR Tryd.prog Tryd.f4 50 (run Tryd.prog [] 10 400 50 (.code (aft (.exit 0) coP (bodyOf Tryd.f4))) (lfAt (co1 Tryd.prog Tryd.f4) 1)) = some [.ret (.tup [.c (.slt 60 2 (.il 0) (.iv 4) (.il 0)), .c (.int .i64 (.il 0))]) [coTb] [.not (.lt (.iv 0) (.add (.iv 3) (.il 1))), .le (.iv 4) (tlen (.cv 1)), .le (tlen (.cv 1)) (.iv 4)]] := by kernel_rfl
set_option maxRecDepth 100000 in
theorem co_ret : retS Tryd.prog (lfAt (co0 Tryd.prog Tryd.f4) 0) Tryd.f4.results.toList = some (.tup [.c .nslc, .c (.int .i64 (.il 1))]) := by kernel_rfl
/-- What the rounds have come to. -/
structure CoAt (f t a : Nat) (l : List (Nat × Nat)) (ρ : Env) : Prop where
  g : ρ.good
  hf : ρ.f = coF
  i2 : ρ.i 2 = (f : Int)
  i3 : ρ.i 3 = (t : Int)
  i0 : ρ.i 0 = (a : Int)
  fb : f ≤ 4294967295
  fa : f ≤ a
  at_ : a ≤ t + 1
  c1 : ρ.c 1 = pxRows l
  len : l.length ≤ a - f
  i4 : ρ.i 4 = (l.length : Int)
  gr : ∀ l', Greedy a (t + 1) l' → Greedy f (t + 1) (l ++ l')
theorem pxRows_len (l : List (Nat × Nat)) : (pxRows l).length = l.length := List.length_map ..
theorem CoAt.bs {f t a : Nat} {l : List (Nat × Nat)} {ρ : Env} (h : CoAt f t a l ρ) (ht : t ≤ 4294967295) : Bds ρ coCx.bs := by
  have := h.i0
  have := h.i2
  have := h.i3
  have := h.i4
  have := h.fb
  have := h.fa
  have := h.at_
  have := h.len
  intro x hx
  change x ∈ [_, _, _, _, _] at hx
  simp only [List.mem_cons, List.not_mem_nil, or_false] at hx
  rcases hx with rfl | rfl | rfl | rfl | rfl
  · show (0 : Int) ≤ ρ.i 0 ∧ ρ.i 0 ≤ 4294967296
    omega
  · show (0 : Int) ≤ ρ.i 4 ∧ ρ.i 4 ≤ 4294967296
    omega
  · show (0 : Int) ≤ (((ρ.c 1).length : Nat) : Int) ∧ (((ρ.c 1).length : Nat) : Int) ≤ 4294967296
    rw [h.c1, pxRows_len]
    omega
  · show (0 : Int) ≤ ρ.i 2 ∧ ρ.i 2 ≤ 4294967295
    omega
  · show (0 : Int) ≤ ρ.i 3 ∧ ρ.i 3 ≤ 4294967295
    omega
theorem CoAt.cx {f t a : Nat} {l : List (Nat × Nat)} {ρ : Env} (h : CoAt f t a l ρ) (ht : t ≤ 4294967295) : coCx.ok ρ := by
  refine ⟨h.bs ht, fun x hx => ?_⟩
  change x ∈ [_, _] at hx
  simp only [List.mem_cons, List.not_mem_nil, or_false] at hx
  have e : ((ρ.c 1).length : Int) = ρ.i 4 := by rw [h.c1, pxRows_len, h.i4]
  rcases hx with rfl | rfl
  · rw [t_le]; show ρ.i 4 ≤ (((ρ.c 1).length : Nat) : Int); omega
  · rw [t_le]; show (((ρ.c 1).length : Nat) : Int) ≤ ρ.i 4; omega
theorem tab_later {w w' : World} (h : TabAt 0 Lib.deBruijn64tab w) (hb : Below w.heap.size w w') : TabAt 0 Lib.deBruijn64tab w' := fun j hj => by
  have hc := h j hj
  rw [← hc]
  exact hb.cell (World.block_lt_of_cell? w _ hc)
section
variable {f t : Nat} {w0 : World}
def coMu (t : Nat) (ρ : Env) : Nat := t + 1 - (ρ.i 0).toNat
set_option maxRecDepth 100000 in
set_option maxHeartbeats 2000000 in
theorem co_round (ht : t ≤ 4294967295) (hT : TabAt 0 Lib.deBruijn64tab w0) {Q : Exit → Act → World → Prop}
    (fin : ∀ ρ a l, CoAt f t a l ρ → a = t + 1 → ∀ β ac w, Md ρ (fun _ => False) w0 (fun _ => 0) 50 (lfAt (co1 Tryd.prog Tryd.f4) 1) β ac w → Q (.exit 0) ac w)
    {a : Nat} {l : List (Nat × Nat)} {ρ : Env} (h : CoAt f t a l ρ) {β : Bn} {ac : Act} {w : World} (hM : Md ρ (fun _ => False) w0 (fun _ => 0) 50 (coT Tryd.prog Tryd.f4) β ac w) :
    (coB Tryd.f4).wp Tryd.prog (Exit.then (NextR (fun _ => False) w0 (fun _ => 0) 50 (coT Tryd.prog Tryd.f4) (fun ρ => ∃ a l, CoAt f t a l ρ) (coMu t) (coMu t ρ)) Q) ac w := by
  refine part_pre (B := ⟨ρ, fun _ => False, w0, fun _ => 0, 50⟩) (sp := []) (p := cR) (s := coT Tryd.prog Tryd.f4) (r := co1 Tryd.prog Tryd.f4) h.g (fun q hq => by cases hq) rfl rfl co_run1 ⟨?_, ?_, trivial⟩ hM
  · intro hpc β1 a1 w1 hM1
    have hlt : a < t + 1 := by
      have := hpc.1
      rw [t_lt, i_add, i_iv, i_iv, i_il, h.i0, h.i3] at this
      omega
    have hTw := tab_later hT (Sy.Only.below_all hM1.only)
    have hbest := best_of hlt (by omega)
    have hln := bitLen_hi hlt (by omega)
    have hcz := ctz_le (a := a) (by omega)
    have hle := hbest.le hlt
    have eor : bits .or .u64 (ρ.i 0) 4294967296 = ((a ||| 4294967296 : Nat) : Int) := by
      rw [h.i0]
      exact bits_or_u64_nat a 4294967296 (by omega) (by decide)
    have etz : (den ρ tzT).i = ((Lib.ctz 64 (a ||| 4294967296) : Nat) : Int) := by
      show (ρ.f 60 _ _ _).i = _
      rw [h.hf]
      show ((Lib.ctz 64 (bits .or .u64 (ρ.i 0) 4294967296).toNat : Nat) : Int) = _
      rw [eor, Int.toNat_natCast]
    have esub : (ρ.i 3 + 1 - ρ.i 0) = ((t + 1 - a : Nat) : Int) := by
      rw [h.i0, h.i3]
      omega
    have eln : (den ρ lnT).i = ((Lib.bitLen (t + 1 - a) : Nat) : Int) := by
      show (ρ.f 61 _ _ _).i = _
      rw [h.hf]
      show ((Lib.bitLen (ρ.i 3 + 1 - ρ.i 0).toNat : Nat) : Int) = _
      rw [esub, Int.toNat_natCast]
    show (Sy.sub cR (coB Tryd.f4)).wp Tryd.prog (ctx Tryd.prog cR (coB Tryd.f4) _) a1 w1
    rw [co_rg]
    refine wp_region_lit ?_
    refine pureL_ok h.g co_sA hM1 fun a2 M2 => ?_
    refine callAt_ok (v := .one (.c (.int .i64 tzT))) (V := .int .i64 ((Lib.ctz 64 (a ||| 4294967296) : Nat) : Int)) co_tz M2 Tryd.func7 rfl (by kernel_rfl) (by show Value.int .i64 (den ρ tzT).i = _; rw [etz]) ?_ fun a3 M3 => ?_
    · show Calls Tryd.prog _ (#[.int .u64 (bits .or .u64 (ρ.i 0) 4294967296)]) w1 _
      rw [eor]
      exact tz64 _ (by rw [or_add (by omega)]; omega) w1 fun _ => hTw
    have M3' := Sy.Md.bds M3 [⟨tzT, 0, 32⟩] fun x hx => by
      rw [List.mem_singleton.1 hx]
      show (0 : Int) ≤ (den ρ tzT).i ∧ (den ρ tzT).i ≤ 32
      rw [etz]
      omega
    refine pureL_ok h.g co_sC M3' fun a4 M4 => ?_
    refine callAt_ok (v := .one (.c (.int .i64 lnT))) (V := .int .i64 ((Lib.bitLen (t + 1 - a) : Nat) : Int)) co_ln M4 Tryd.func8 rfl (by kernel_rfl) (by show Value.int .i64 (den ρ lnT).i = _; rw [eln]) ?_ fun a5 M5 => ?_
    · show Calls Tryd.prog _ (#[.int .u64 (ρ.i 3 + 1 - ρ.i 0)]) w1 _
      rw [esub]
      have := len64 ((t + 1 - a : Nat) : Int) w1 (by omega) (by omega)
      rwa [Int.toNat_natCast] at this
    have M5' := Sy.Md.bds M5 [⟨lnT, 1, 33⟩] fun x hx => by
      rw [List.mem_singleton.1 hx]
      show (1 : Int) ≤ (den ρ lnT).i ∧ (den ρ lnT).i ≤ 33
      rw [eln]
      omega
    refine pureL_ok h.g co_sE M5' fun a6 M6 => ?_
    refine wpList_nil ?_
    have emn : (den ρ mnT).i = ((min (Lib.ctz 64 (a ||| 4294967296)) (Lib.bitLen (t + 1 - a) - 1) : Nat) : Int) := by
      unfold mnT
      rw [i_min, i_add, eln, etz, i_il]
      omega
    generalize min (Lib.ctz 64 (a ||| 4294967296)) (Lib.bitLen (t + 1 - a) - 1) = n at hbest hle emn
    have hn32 := hbest.1
    refine round_aft .normal (r := co2 Tryd.prog Tryd.f4) rfl co_run2 (I := fun ρ => ∃ a l, CoAt f t a l ρ) (fun ρ hI => by
      obtain ⟨a, l, hI⟩ := hI
      rw [(Prod.mk.inj co_cx).1]
      exact hI.cx ht) h.g (fun q hq => by cases hq) ⟨?_, trivial⟩ M6
    intro _ β7 u
    have epw : (den ρ (.pw mnT)).i = ((2 ^ n : Nat) : Int) := by
      show (2 : Int) ^ (den ρ mnT).i.toNat = _
      rw [emn, Int.toNat_natCast]
      simp
    have hpos := Nat.two_pow_pos n
    have hfa := h.fa
    have hlen := h.len
    refine ⟨⟨a + 2 ^ n, l ++ [(a, 32 - n)], ⟨h.g, h.hf, h.i2, h.i3, ?_, h.fb, by omega, hle, ?_, ?_, ?_, ?_⟩⟩, ?_⟩
    · show ρ.i 0 + (den ρ (.pw mnT)).i = _
      rw [epw, h.i0]
      omega
    · show ρ.c 1 ++ (den ρ (pxT (.iv 0) (.sub (.il 32) mnT))).c = _
      have e2 : (den ρ (.sub (.il 32) mnT)).i = ((32 - n : Nat) : Int) := by
        rw [i_sub, i_il, emn]
        omega
      have e3 : (den ρ (pxT (.iv 0) (.sub (.il 32) mnT))).c = [pxRow (a, 32 - n)] := by
        show [[Value.int .u32 (ρ.i 0), .int .i64 (den ρ (.sub (.il 32) mnT)).i]] = _
        rw [e2, h.i0]
        rfl
      rw [e3, h.c1]
      simp [pxRows]
    · rw [List.length_append]
      simp only [List.length_cons, List.length_nil]
      omega
    · show (((ρ.c 1).length : Nat) : Int) + 1 = _
      rw [h.c1, pxRows_len, List.length_append]
      rfl
    · intro l' hl'
      rw [List.append_assoc]
      exact h.gr _ (Greedy.more a (t + 1) n l' hlt hbest hl')
    · have h0 := h.i0
      show t + 1 - (ρ.i 0 + (den ρ (.pw mnT)).i).toNat < t + 1 - (ρ.i 0).toNat
      rw [epw, h0]
      omega
  · intro hpc β1 a1 w1 hM1
    have hge : ¬ a < t + 1 := by
      have := hpc.1
      rw [t_not, t_lt, i_add, i_iv, i_iv, i_il, h.i0, h.i3] at this
      omega
    exact ⟨outB_ok 0 _ _ co_out, fin ρ a l h (by have := h.at_; omega) β1 a1 w1 hM1⟩
set_option maxRecDepth 100000 in
set_option maxHeartbeats 2000000 in
theorem pco_runs (hf : f ≤ 4294967295) (ht : t ≤ 4294967295) (hT : TabAt 0 Lib.deBruijn64tab w0) :
    Calls Tryd.prog 4 #[.int .u32 (f : Int), .int .u32 (t : Int)] w0 (RetP fun v w' => ∃ x, v = .tuple #[x, .int .i64 (coE f t)] ∧ NewTab w0 w' x 29 pxLv (coRows f t)) := by
  let ρ0 : Env := { mkEnv0 [0, 0, (f : Int), (t : Int)] [] [] [] with f := coF }
  have hg0 : ρ0.good := fun i => rfl
  have hcx : coSt.cx.ok ρ0 := by
    refine ⟨fun z hz => ?_, fun t ht => by cases ht⟩
    change z ∈ [_, _] at hz
    simp only [List.mem_cons, List.not_mem_nil, or_false] at hz
    rcases hz with rfl | rfl
    · show (0 : Int) ≤ (f : Int) ∧ (f : Int) ≤ 4294967295
      omega
    · show (0 : Int) ≤ (t : Int) ∧ (t : Int) ≤ 4294967295
      omega
  refine calls_pre (B := ⟨ρ0, fun _ => False, w0, fun _ => 0, 50⟩) (sp := []) (p := coP) (xs := coA) (s := coSt) (r := co0 Tryd.prog Tryd.f4) hg0 (fun q hq => by cases hq) rfl Tryd.func4 rfl rfl co_run0 (Md.start hcx) ⟨?_, ?_, trivial⟩ rfl
  · intro hpc β a w' hM
    have hlt : t < f := by
      have := hpc.1
      rw [t_lt] at this
      have this : (t : Int) < (f : Int) := this
      omega
    refine ctx_ret (P := Tryd.prog) coP (bodyOf Tryd.f4) _ (ret_post (B := ⟨ρ0, fun _ => False, w0, fun _ => 0, 50⟩) hM co_ret ⟨.slice none 0 0, ?_, ?_⟩)
    · unfold coE
      rw [if_pos hlt]
      rfl
    · unfold coRows
      rw [if_pos hlt]
      exact newTab_nil (Sy.Only.below_all hM.only) _ _
  · intro hpc β ac w1 hM1
    have hge : ¬ t < f := by
      have := hpc.1
      rw [t_not, t_lt] at this
      have this : ¬ (t : Int) < (f : Int) := this
      omega
    show (Sy.sub coP (bodyOf Tryd.f4)).wp Tryd.prog (ctx Tryd.prog coP (bodyOf Tryd.f4) _) ac w1
    rw [← co_loop]
    obtain ⟨fr1, fr2⟩ := Prod.mk.inj co_free
    obtain ⟨β1, hM2⟩ := Sy.Md.tabSlot hM1 6 60 29 pxLv (show 50 ≤ 60 by decide) fr1 fr2
    have hI1 : ∀ u, CoAt f t f [] { ρ0.sub β1 [.i 4 (.il 0), .i 0 (.iv 2), .c 1 tn] with u := u } := fun u => ⟨hg0, rfl, rfl, rfl, rfl, hf, Nat.le_refl _, by omega, rfl, Nat.zero_le _, rfl, fun l' h => h⟩
    obtain ⟨u, β', hM3⟩ := Sy.Md.enter hM2 co_in fun u => by rw [(Prod.mk.inj co_cx).1]; exact (hI1 u).cx ht
    refine loop_round (w0 := w0) (T := coT Tryd.prog Tryd.f4) (fun ρ => ∃ a l, CoAt f t a l ρ) (coMu t) (fun ρ hI β a w hM => ?_) ⟨_, _, hI1 u⟩ hM3
    obtain ⟨a1, l1, hI⟩ := hI
    refine co_round ht hT ?_ hI hM
    intro ρ a l h ha β ac w hM
    refine aft_fin (B := ⟨ρ, fun _ => False, w0, fun _ => 0, 50⟩) h.g (fun q hq => by cases hq) rfl (.exit 0) co_fin ?_ hM
    refine ⟨?_, trivial⟩
    intro _ β2 w2 hH
    subst ha
    have hG := h.gr [] (Greedy.done _)
    rw [List.append_nil] at hG
    have hl := greedy_halve (by omega) (by omega) hG
    have hc : (den ρ (.cv 1)).c = pxRows l := h.c1
    refine ⟨C.den ρ β2 (.slt 60 2 (.il 0) (.iv 4) (.il 0)), ?_, ?_⟩
    · unfold coE
      rw [if_neg hge]
      rfl
    · have := newTab_hp hH (l := 60) (t := .cv 1) (L := .iv 4) (List.mem_cons_self ..) (by rw [hc, pxRows_len]; exact h.i4)
      unfold coRows
      rw [if_neg hge, ← hl, ← hc]
      exact this
end
end Go.Proofs.YtagdnjhkoajbnaaDoor
