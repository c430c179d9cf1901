/- The law OutqSays: the rounds, and the law's walk. Printed by gen_oqr.py. -/
import Derived.Test.YthjigajielhkfaaOq
import Derived.Test.YthjigajielhkfaaStep
namespace Go.Proofs.Ythjigajielhkfaa
open Go.RowKit Go.BigFrame Sy
set_option linter.unusedVariables false
set_option linter.unusedSimpArgs false

set_option maxRecDepth 100000 in
theorem oq_low : lowSt 300 (oqX0 Try.prog Try.f5) = true := by kernel_rfl
theorem OqK.hi {vl : Value} {len : Nat} {k : Int} {ρ : Env} (h : OqK vl len k ρ) (vs : List Value) : OqK vl len k (ρ.hi 300 vs) := ⟨h.g, h.v, h.i0, h.i1, h.lt, h.k, h.rel, h.x0, h.x1, h.x2, h.x4⟩
def oqVs (a : Int) (s f : Bool) (b : ByteArray) (i : Bool) : List Value := [.int .i64 a, .bool s, .bool f, .string b, .bool i]
theorem oq_pc {vl : Value} {len : Nat} {k : Int} {ρ : Env} (h : OqK vl len k ρ) (hl : len ≤ 140737488355328) {lo limit mss : Int} (h0 : ρ.i 2 ≤ lo) (h1 : lo ≤ ((ρ.s 0).size : Int) + 1 + b1 (ρ.b 0)) (h2 : -9223372036854775808 ≤ limit ∧ limit ≤ 9223372036854775807) (h3 : -9223372036854775808 ≤ mss ∧ mss ≤ 9223372036854775807) :
    ∃ a s f b i, OqPc (ρ.hi 300 (oqVs a s f b i)) lo limit mss ∧ lo + (((ρ.hi 300 (oqVs a s f b i)).s 303).size : Int) + b1 ((ρ.hi 300 (oqVs a s f b i)).b 301) + b1 ((ρ.hi 300 (oqVs a s f b i)).b 302) ≤ ((ρ.s 0).size : Int) + 1 + b1 (ρ.b 0) := by
  obtain ⟨a, s, f, b, i, e, hb, hz⟩ := pcV_parts (limit := limit) (mss := mss) h.rel h0 h1
  have g9 := h.rel.s0
  have q1 := h.i1
  have q2 := h.lt
  refine ⟨a, s, f, b, i, ⟨h0, h1, ?_, h2.1, h2.2, h3.1, h3.2, ?_, e⟩, hb⟩
  · show (ρ.s 0).size ≤ _
    omega
  · show b.size ≤ _
    omega
set_option maxRecDepth 100000 in
set_option maxHeartbeats 2000000 in
theorem oq_ops {w0 : World} {vl : Value} {len : Nat} (hl : len ≤ 140737488355328) {Q : Exit → Act → World → Prop} {k : Int} {m : Nat} (hm : m = ((len : Int) - k).toNat) {ρ : Env} (hK : OqK vl len k ρ) {β : Bn} {a : Act} {w : World} (hM : Md ρ (fun _ => False) w0 (fun _ => 0) 0 (oqX0 Try.prog Try.f5) β a w) :
    (oqRest Try.f5).wp Try.prog (ctx Try.prog [1, 1, 0, 2] (oqB Try.f5) (OqQ w0 vl len m Q)) a w := by
  have ha1 := hK.rel.a1
  have ha2 := hK.rel.a2
  have ha3 := hK.rel.a3
  have ha0 := hK.rel.a0
  have hs0 := hK.rel.s0
  have hbb := b1_bd (ρ.b 0)
  have hi1 := hK.i1
  have hlt := hK.lt
  by_cases h6 : ρ.i 100 % 8 = 6
  · obtain ⟨x1, x2, x3, x4, x5, hp, _⟩ := oq_pc hK hl (lo := ρ.i 2) (limit := ρ.i 4) (mss := ρ.i 102) (Int.le_refl _) (by omega) ⟨by omega, by omega⟩ hK.x2
    have hM3 := Sy.Md.hi hM 300 (oqVs x1 x2 x3 x4 x5) oq_low
    have hK3 := hK.hi (oqVs x1 x2 x3 x4 x5)
    have hsp : ∀ q ∈ opSps 6, q.Ok Try.prog (ρ.hi 300 (oqVs x1 x2 x3 x4 x5)) := fun q hq => by
      rcases List.mem_cons.1 hq with rfl | hq
      · exact ofSp_ok
      rcases List.mem_cons.1 hq with rfl | hq
      · exact pcSp_ok (lo := .iv 2) (limit := .iv 4) (mss := .iv 102) hK3.rel hp
      rcases List.mem_cons.1 hq with rfl | hq
      · exact atSp_ok (lo := .iv 2) (limit := .iv 4) (mss := .iv 102) hK3.rel hp
      cases hq
    exact oq_op_wp (kd := 6) oq_op6 hl hm hK3 h6 hsp (oq_case6 rfl hK3) hM3
  · obtain ⟨x1, x2, x3, x4, x5, hp, hc⟩ := oq_pc hK hl (lo := ρ.i 3) (limit := ρ.i 101) (mss := ρ.i 102) ha1 (by omega) hK.x1 hK.x2
    have hM3 := Sy.Md.hi hM 300 (oqVs x1 x2 x3 x4 x5) oq_low
    have hK3 := hK.hi (oqVs x1 x2 x3 x4 x5)
    have hsp : ∀ q ∈ [ofSp, pcSp (.iv 3) (.iv 101) (.iv 102), atSp (.iv 3) (.iv 101) (.iv 102)], q.Ok Try.prog (ρ.hi 300 (oqVs x1 x2 x3 x4 x5)) := fun q hq => by
      rcases List.mem_cons.1 hq with rfl | hq
      · exact ofSp_ok
      rcases List.mem_cons.1 hq with rfl | hq
      · exact pcSp_ok (lo := .iv 3) (limit := .iv 101) (mss := .iv 102) hK3.rel hp
      rcases List.mem_cons.1 hq with rfl | hq
      · exact atSp_ok (lo := .iv 3) (limit := .iv 101) (mss := .iv 102) hK3.rel hp
      cases hq
    have h8 : ρ.i 100 % 8 = 0 ∨ ρ.i 100 % 8 = 1 ∨ ρ.i 100 % 8 = 2 ∨ ρ.i 100 % 8 = 3 ∨ ρ.i 100 % 8 = 4 ∨ ρ.i 100 % 8 = 5 ∨ ρ.i 100 % 8 = 7 := by omega
    rcases h8 with h8 | h8 | h8 | h8 | h8 | h8 | h8
    · exact oq_op_wp (kd := 0) oq_op0 hl hm hK3 h8 hsp (oq_case0 rfl hK3 hl) hM3
    · exact oq_op_wp (kd := 1) oq_op1 hl hm hK3 h8 hsp (oq_case0 rfl hK3 hl) hM3
    · exact oq_op_wp (kd := 2) oq_op2 hl hm hK3 h8 hsp (oq_case2 rfl hK3) hM3
    · exact oq_op_wp (kd := 3) oq_op3 hl hm hK3 h8 hsp (oq_case3 rfl hK3 hc) hM3
    · exact oq_op_wp (kd := 4) oq_op4 hl hm hK3 h8 hsp (oq_case3 rfl hK3 hc) hM3
    · exact oq_op_wp (kd := 5) oq_op5 hl hm hK3 h8 hsp (oq_case5 rfl hK3) hM3
    · exact oq_op_wp (kd := 7) oq_op7 hl hm hK3 h8 hsp (oq_case7 rfl hK3) hM3
def opAt (c : Code) (j : Nat) : Oper := match c with
  | .region _ ops _ => (ops[j]?).getD default
  | _ => default
set_option maxRecDepth 100000 in
theorem oq_row : RowOps 6 (Sy.sub [1, 1, 0, 2, 0] (oqB Try.f5)) 39 52 21 23 25 26 6 :=
  ⟨opAt (Sy.sub [1, 1, 0, 2, 0] (oqB Try.f5)) 0, opAt (Sy.sub [1, 1, 0, 2, 0] (oqB Try.f5)) 1, opAt (Sy.sub [1, 1, 0, 2, 0] (oqB Try.f5)) 2, opAt (Sy.sub [1, 1, 0, 2, 0] (oqB Try.f5)) 3, by kernel_rfl,
    ⟨by kernel_rfl, by kernel_rfl, by kernel_rfl⟩, ⟨by kernel_rfl, by kernel_rfl, by kernel_rfl⟩, ⟨by kernel_rfl, by kernel_rfl, by kernel_rfl⟩, ⟨by kernel_rfl, by kernel_rfl, by kernel_rfl⟩⟩
def stZ (P : Program) (t : TypeId) : List C := (zeroS P t).getD []
set_option maxRecDepth 100000 in
theorem oq_zero : zeroS Try.prog 52 = some (stZ Try.prog 52) := by kernel_rfl
set_option maxRecDepth 100000 in
theorem oq_zlen : (stZ Try.prog 52).length = xC.length := by kernel_rfl
set_option maxRecDepth 100000 in
theorem oq_lo1 : lowSt 100 (lfAt (oqHd Try.prog Try.f5) 0) = true := by kernel_rfl
set_option maxRecDepth 100000 in
theorem oq_any1 : noAny 1025 (lfAt (oqHd Try.prog Try.f5) 0).tm = true := by kernel_rfl
set_option maxRecDepth 100000 in
theorem oq_t21 : (lfAt (oqHd Try.prog Try.f5) 0).tm[21]? = some (.one (.c (.opq 0))) := by kernel_rfl
set_option maxRecDepth 100000 in
theorem oq_t23 : (lfAt (oqHd Try.prog Try.f5) 0).tm[23]? = some (.one (.c (.int .i64 (.iv 0)))) := by kernel_rfl
set_option maxRecDepth 100000 in
theorem oq_free : (row2 (lfAt (oqHd Try.prog Try.f5) 0) xC 1025 25 26).free 200 = true := by kernel_rfl
set_option maxRecDepth 100000 in
theorem oq_e1 : (row1 (lfAt (oqHd Try.prog Try.f5) 0) 1025 25).tm[25]? = some (.any 1025) := by kernel_rfl
set_option maxRecDepth 100000 in
theorem oq_e2 : (row2 (lfAt (oqHd Try.prog Try.f5) 0) xC 1025 25 26).tm[26]? = some (.one (.agg xC)) := by kernel_rfl
set_option maxRecDepth 100000 in
theorem oq_e3 : (((row2 (lfAt (oqHd Try.prog Try.f5) 0) xC 1025 25 26).new 200 52 xC).put (some 6) (.one (.c (.ptr 200 0)))).tm[6]? = some (.one (.c (.ptr 200 0))) := by kernel_rfl
set_option maxRecDepth 100000 in
theorem oq_e4 : (((row2 (lfAt (oqHd Try.prog Try.f5) 0) xC 1025 25 26).new 200 52 xC).put (some 6) (.one (.c (.ptr 200 0)))).tm[26]? = some (.one (.agg xC)) := by kernel_rfl
set_option maxRecDepth 100000 in
theorem oq_out : outB 0 [1, 1, 0, 2, 0] (oqB Try.f5) = true := by kernel_rfl
theorem xC_len : xC.length = 45 := rfl
set_option maxRecDepth 100000 in
set_option maxHeartbeats 2000000 in
theorem oq_round {w0 : World} {vl : Value} {len : Nat} {C : Nat → List Value} (hl : len ≤ 140737488355328) (hC : ∀ i, i < len → ∃ b off cap, vl = .slice (some ⟨b, off, none⟩) len cap ∧ leafAll stepLeaves (C i) ∧ w0.rangeAt b (off + i * 45) (C i)) {Q : Exit → Act → World → Prop}
    (hend : ∀ ρ, OqI vl len ρ → ∀ β a w, Md ρ (fun _ => False) w0 (fun _ => 0) 0 (lfAt (oqHd Try.prog Try.f5) 1) β a w → Q (.exit 0) a w)
    {ρ : Env} (hI : OqI vl len ρ) {β : Bn} {a : Act} {w : World} (hM : Md ρ (fun _ => False) w0 (fun _ => 0) 0 oqT β a w) :
    (oqB Try.f5).wp Try.prog (OqQ w0 vl len (oqMu len ρ) Q) a w := by
  refine part_pre (B := ⟨ρ, fun _ => False, w0, fun _ => 0, 0⟩) (sp := []) (p := [1, 1, 0, 2, 0]) (s := oqT) (r := oqHd Try.prog Try.f5) hI.g (fun q hq => by cases hq) rfl rfl oq_hd ⟨?_, ?_, trivial⟩ hM
  · intro hpc β a w1 hM1
    replace hpc : pcs ρ _ := hpc
    have hlt : ρ.i 0 < ρ.i 1 := by
      have := hpc.1
      rw [t_lt, i_iv, i_iv] at this
      exact this
    have hi0 := hI.i0
    have hi1 := hI.i1
    obtain ⟨k, hk⟩ : ∃ k : Nat, ρ.i 0 = (k : Int) := ⟨(ρ.i 0).toNat, by omega⟩
    have hkl : k < len := by omega
    obtain ⟨b, off, cap, hvl, hleaf, hr0⟩ := hC k hkl
    have hr1 : w1.rangeAt b (off + k * 45) (C k) := hM1.only.range hr0 (fun h => h)
    obtain ⟨y0, hy0, hw0⟩ := leaf_int hleaf 0 (k := .i64) rfl
    obtain ⟨y1, hy1, hw1⟩ := leaf_int hleaf 1 (k := .i64) rfl
    obtain ⟨y2, hy2, hw2⟩ := leaf_int hleaf 2 (k := .i64) rfl
    obtain ⟨y4, hy4, hw4⟩ := leaf_str hleaf 4 rfl
    have M2 := Sy.Md.hi hM1 100 (C k) oq_lo1
    have M3 := Sy.Md.setU M2 1025 (.pointer (some ⟨b, off + k * 45, none⟩)) oq_any1
    have hK : OqK vl len (ρ.i 0) { ρ.hi 100 (C k) with u := fun n => if n = 1025 then .pointer (some ⟨b, off + k * 45, none⟩) else (ρ.hi 100 (C k)).u n } := by
      refine ⟨hI.g, hI.v, hI.i0, hI.i1, hlt, rfl, hI.rel, ?_, ?_, ?_, ?_⟩
      · show _ ≤ intAt (C k) 0 ∧ intAt (C k) 0 ≤ _
        unfold intAt
        rw [hy0]
        exact bounds_i64 hw0
      · show _ ≤ intAt (C k) 1 ∧ intAt (C k) 1 ≤ _
        unfold intAt
        rw [hy1]
        exact bounds_i64 hw1
      · show _ ≤ intAt (C k) 2 ∧ intAt (C k) 2 ≤ _
        unfold intAt
        rw [hy2]
        exact bounds_i64 hw2
      · show (strAt (C k) 4).size ≤ _
        unfold strAt
        rw [hy4]
        exact Nat.le_trans hw4 (by decide)
    have hden : denL { ρ.hi 100 (C k) with u := fun n => if n = 1025 then .pointer (some ⟨b, off + k * 45, none⟩) else (ρ.hi 100 (C k)).u n } β xC = C k := by
      rw [denL_u]
      exact leafC_den hleaf (fun i x hx => by rw [Nat.zero_add]; exact hx)
    show (Sy.sub [1, 1, 0, 2, 0] (oqB Try.f5)).wp Try.prog (ctx Try.prog [1, 1, 0, 2, 0] (oqB Try.f5) _) a w1
    refine row_wp hK.g M3 oq_row (b := b) (off := off) (len := len) (cap := cap) (k := k) (m := 1025) (n := 200) (cs := xC) oq_t21 (hI.v.trans hvl) oq_t23 (by show Value.int .i64 (ρ.i 0) = _; rw [hk]) hkl (by rw [xC_len]; rfl) (by rw [xC_len, hden]; exact hr1) Try.underlying39 Try.underlying52 rfl (by rw [xC_len]; exact step_info) oq_zero oq_zlen (Nat.zero_le _) oq_free rfl oq_e1 oq_e2 oq_e3 oq_e4 ?_
    intro β2 a2 w2 M4
    have hops := oq_ops hl (Q := Q) (m := oqMu len ρ) rfl hK M4
    obtain ⟨A1, A2, A6, A7, Y, Z, A31, hB, hR⟩ := oq_code
    rw [hR] at hops
    rw [hB] at hops ⊢
    exact hops
  · intro hpc β a w1 hM1
    exact ⟨outB_ok 0 _ _ oq_out, hend ρ hI β a w1 hM1⟩
/-! The law. -/
theorem oq_len_op {P : Program} {w : World} {a : Option Addr} {len cap : Nat} {t e ty : TypeId} (ht : P.underlying t = some (.slice e)) : (Builtin.len_ #[t] ty #[.slice a len cap]).run P w = .ok (.int .i64 (len : Int)) w := by
  simp only [Builtin.len_, List.getElem?_toArray, List.getElem?_cons_zero, Sem.run_bind, run_underlying ht, Result.andThen_ok, Sem.run_pure]
  rfl
def oq4 (P : Program) (fn : Func) : Sy.St := nilRow ((((lfAt (oqPre P fn) 0).put (some 21) (.one (.c (.opq 0)))).put (some 22) (.one (.c (.int .i64 (.iv 1))))).put (some 23) (.one (.c (.int .i64 (.il 0))))) 4 5
set_option maxRecDepth 100000 in
theorem oq_in : (matchS 0 oqT (oq4 Try.prog Try.f5)).map noU = some [.i 0 (.il 0), .i 6 (.il 0), .i 5 (.il 1), .i 2 (.il 0), .i 3 (.il 0), .i 4 (.il 0), .b 0 (.bl false), .s 1 (.sl []), .s 0 (.sl []), .b 0 (.bl false), .i 2 (.il 0), .i 3 (.il 0), .i 4 (.il 0)] := by kernel_rfl
set_option maxRecDepth 100000 in
theorem oq_f4 : ((((lfAt (oqPre Try.prog Try.f5) 0).put (some 21) (.one (.c (.opq 0)))).put (some 22) (.one (.c (.int .i64 (.iv 1))))).put (some 23) (.one (.c (.int .i64 (.il 0))))).free 4 = true := by kernel_rfl
set_option maxRecDepth 100000 in
theorem oq_f5 : ((((lfAt (oqPre Try.prog Try.f5) 0).put (some 21) (.one (.c (.opq 0)))).put (some 22) (.one (.c (.int .i64 (.iv 1))))).put (some 23) (.one (.c (.int .i64 (.il 0))))).free (4 + 1) = true := by kernel_rfl
set_option maxRecDepth 100000 in
theorem oq_s0 : (lfAt (oqPre Try.prog Try.f5) 0).tm[0]? = some (.one (.c (.opq 0))) := by kernel_rfl
set_option maxRecDepth 100000 in
theorem oq_s21 : ((lfAt (oqPre Try.prog Try.f5) 0).put (some 21) (.one (.c (.opq 0)))).tm[21]? = some (.one (.c (.opq 0))) := by kernel_rfl
theorem oq_rg4 : ∃ o1 o2 o3 : Oper, Sy.sub [1, 1, 1, 0, 0] (bodyOf Try.f5) = .region 4 #[o1, o2, o3] false ∧ (o1.op = .move (.tmp 0) ∧ o1.dst = some 21 ∧ o1.guard = none) ∧ (o2.op = .call ⟨.builtin .len, #[.tmp 21], #[39]⟩ ∧ o2.dst = some 22 ∧ o2.guard = none) ∧ (o3.op = .move (.const (.int .i64 0)) ∧ o3.dst = some 23 ∧ o3.guard = none) :=
  ⟨opAt (Sy.sub [1, 1, 1, 0, 0] (bodyOf Try.f5)) 0, opAt (Sy.sub [1, 1, 1, 0, 0] (bodyOf Try.f5)) 1, opAt (Sy.sub [1, 1, 1, 0, 0] (bodyOf Try.f5)) 2, by kernel_rfl, ⟨by kernel_rfl, by kernel_rfl, by kernel_rfl⟩, ⟨by kernel_rfl, by kernel_rfl, by kernel_rfl⟩, ⟨by kernel_rfl, by kernel_rfl, by kernel_rfl⟩⟩
theorem oq_body : ∃ B0 B1 B2 R4 E : Code, bodyOf Try.f5 = .seq B0 (.seq B1 (.seq B2 (.seq (.seq R4 (.block 0 (.loop (oqB Try.f5)))) E))) :=
  ⟨Sy.sub [0] (bodyOf Try.f5), Sy.sub [1, 0] (bodyOf Try.f5), Sy.sub [1, 1, 0] (bodyOf Try.f5), Sy.sub [1, 1, 1, 0, 0] (bodyOf Try.f5), Sy.sub [1, 1, 1, 1] (bodyOf Try.f5), by kernel_rfl⟩
set_option maxRecDepth 100000 in
set_option maxHeartbeats 2000000 in
theorem walk_outqSays (w : World) (a : Option Addr) (len cap : Nat) (o : Opened stepLeaves w a len cap) (hl : len ≤ 140737488355328) :
    Calls Try.prog 5 #[.slice a len cap] w fun e w' => e = .returned (.bool true) ∧ Below w.heap.size w w' := by
  obtain ⟨C, _, hC0⟩ := came_of o
  have hC : ∀ i, i < len → ∃ b off cap', Value.slice a len cap = .slice (some ⟨b, off, none⟩) len cap' ∧ leafAll stepLeaves (C i) ∧ w.rangeAt b (off + i * 45) (C i) := by
    rcases hC0 with rfl | ⟨b, off, rfl, _, hC⟩
    · intro i hi
      omega
    · exact fun i hi => ⟨b, off, cap, rfl, (hC i hi).1, (hC i hi).2⟩
  let ρ0 : Env := mkEnv [0, (len : Int)] [] [] [.slice a len cap]
  have hg0 : ρ0.good := fun i => by
    rcases i with _ | i
    · rfl
    · rfl
  have hM0 : Md ρ0 (fun _ => False) w (fun _ => 0) 0 ⟨[], [], ⟨[], []⟩, 0⟩ (fun _ => 0) ⟨#[], []⟩ w := Md.start ⟨fun _ h => (by cases h), fun _ h => (by cases h)⟩
  refine (calls_pre (B := ⟨ρ0, fun _ => False, w, fun _ => 0, 0⟩) (sp := []) (p := [1, 1, 1, 0, 0]) (xs := [.one (.c (.opq 0))]) (s := ⟨[], [], ⟨[], []⟩, 0⟩) (r := oqPre Try.prog Try.f5) hg0 (fun q hq => by cases hq) rfl Try.func5 rfl rfl oq_pre hM0 (R := fun v w' => v = .bool true ∧ Below w.heap.size w w') ⟨?_, trivial⟩ rfl).mono ?_
  · intro _ β a1 w1 hM1
    show (Sy.sub [1, 1, 1, 0, 0] (bodyOf Try.f5)).wp Try.prog (ctx Try.prog [1, 1, 1, 0, 0] (bodyOf Try.f5) _) a1 w1
    obtain ⟨o1, o2, o3, hc, ⟨p1, t1, g1⟩, ⟨p2, t2, g2⟩, ⟨p3, t3, g3⟩⟩ := oq_rg4
    rw [hc]
    refine wp_region_list ?_
    show wpList _ _ _ [o1, o2, o3] a1 w1
    have M1 := Sy.Md.put hM1 (some 21) (.one (.c (.opq 0)))
    have M2 := Sy.Md.put M1 (some 22) (.one (.c (.int .i64 (.iv 1))))
    have M3 := Sy.Md.put M2 (some 23) (.one (.c (.int .i64 (.il 0))))
    have M4 := Sy.Md.nilRow M3 4 5 (Nat.zero_le _) oq_f4 oq_f5
    refine wpList_val (v := .slice a len cap) (w' := w1) g1 ?_ ?_
    · have hx : a1.eval (.tmp 0) = .slice a len cap := Sy.Md.opd hM1 (x := .tmp 0) oq_s0
      unfold execOp
      simp only [p1, hx, Sem.run_bind, Sem.run_pure, Result.andThen_ok]
    rw [t1]
    refine wpList_val (v := .int .i64 (len : Int)) (w' := w1) g2 ?_ ?_
    · have hx : (a1.put (some 21) (.slice a len cap)).eval (.tmp 21) = .slice a len cap := Sy.Md.opd M1 (x := .tmp 21) oq_s21
      have hlen := oq_len_op (P := Try.prog) (w := w1) (a := a) (len := len) (cap := cap) (ty := o2.type) Try.underlying39
      obtain ⟨dst, op, ty, pos, after, guard⟩ := o2
      simp only [] at p2
      subst p2
      rw [execOp_builtin, builtin_len]
      refine run_v ?_
      rw [show #[Operand.tmp 21].map (a1.put (some 21) (.slice a len cap)).eval = #[Value.slice a len cap] from by simp [hx]]
      exact hlen
    rw [t2]
    refine wpList_val (v := .int .i64 0) (w' := w1) g3 ?_ ?_
    · unfold execOp
      simp only [p3, Act.eval, Sem.run_bind, Sem.run_pure, Result.andThen_ok]
    rw [t3]
    refine wpList_nil ?_
    have hI0 : ∀ β u, OqI (.slice a len cap) len { ρ0.sub β [.i 0 (.il 0), .i 6 (.il 0), .i 5 (.il 1), .i 2 (.il 0), .i 3 (.il 0), .i 4 (.il 0), .b 0 (.bl false), .s 1 (.sl []), .s 0 (.sl []), .b 0 (.bl false), .i 2 (.il 0), .i 3 (.il 0), .i 4 (.il 0)] with u := u } := fun β u => by
      refine ⟨hg0, rfl, Int.le_refl 0, rfl, (by show (0 : Int) ≤ (len : Int); omega), ?_⟩
      show OqRel none8 none8 false 0 0 0 1 0 (2048 * 0)
      refine ⟨by decide, rfl, ?_, Int.le_refl _, Int.le_refl _, Int.le_refl _, by decide, by decide, by decide⟩
      apply ByteArray.ext
      show (#[] : Array UInt8) = _
      simp
      rfl
    obtain ⟨u, β', hM5⟩ := Sy.Md.enter M4 oq_in fun u => (hI0 _ u).cx hl
    have hend : ∀ (ρ : Env), OqI (.slice a len cap) len ρ → ∀ β a' w', Md ρ (fun _ => False) w (fun _ => 0) 0 (lfAt (oqHd Try.prog Try.f5) 1) β a' w' → ctx Try.prog [1, 1, 1, 0] (bodyOf Try.f5) (bodyPost Try.prog Try.f5 (RetP fun v w' => v = .bool true ∧ Below w.heap.size w w')) Ex.normal.to a' w' := by
      intro ρ hI β a' w' hM
      have hs := hI.rel.size
      have hn := hI.rel.hn
      have e : (den ρ (.add (.iv 5) (.iv 6))).i = (den ρ (.add (.len (.sv 0)) (.il 1))).i := by
        rw [i_add, i_add, i_iv, i_iv, i_len, s_sv, i_il]
        omega
      have e2 : (den ρ (.add (.add (.iv 5) (.iv 6)) (.il 1))).i = (den ρ (.add (.len (.sv 0)) (.il 2))).i := by
        rw [i_add, e, i_add, i_add, i_il, i_il]
        omega
      refine aft_fin (B := ⟨ρ, fun _ => False, w, fun _ => 0, 0⟩) hI.g (fun q hq => by cases hq) rfl .normal oq_end ⟨?_, ?_, trivial⟩ hM
      · intro _ β w' hH
        refine ⟨?_, Sy.Only.below_all hH.only⟩
        show Value.bool ((den ρ (.add (.add (.iv 5) (.iv 6)) (.il 1))).i == (den ρ (.add (.len (.sv 0)) (.il 2))).i) = _
        rw [e2, beq_self_eq_true]
      · intro _ β w' hH
        refine ⟨?_, Sy.Only.below_all hH.only⟩
        show Value.bool ((den ρ (.add (.iv 5) (.iv 6))).i == (den ρ (.add (.len (.sv 0)) (.il 1))).i) = _
        rw [e, beq_self_eq_true]
    obtain ⟨B0, B1, B2, R4, E, hbody⟩ := oq_body
    rw [hbody] at hend ⊢
    show (Code.block 0 (.loop (oqB Try.f5))).wp Try.prog _ _ w1
    refine wp_block ?_
    refine loop_round (w0 := w) (T := oqT) (OqI (.slice a len cap) len) (oqMu len) (fun ρ hI β a w hM => oq_round hl hC (fun ρ hI β a w hM => ?_) hI hM) (hI0 _ u) hM5
    exact hend ρ hI β a w hM
  · rintro e w' ⟨v, rfl, rfl, hb⟩
    exact ⟨rfl, hb⟩
#print axioms walk_outqSays
end Go.Proofs.Ythjigajielhkfaa
