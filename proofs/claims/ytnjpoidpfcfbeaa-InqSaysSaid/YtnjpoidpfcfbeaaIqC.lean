/- The program's Read. -/
import Derived.Test.YtnjpoidpfcfbeaaIqB
import Derived.Laws.MakeOwn
namespace Go.Proofs.Ytnjpoidpfcfbeaa
open Go.RowKit Sy
set_option linter.unusedVariables false
set_option linter.unusedSimpArgs false

def qdBs : List Bd := [B61 (.iv 0), B61 (.iv 1), I64 (.iv 2)]
def qdSt : Sy.St := ⟨[], [quO 0 true (.cv 0) (.cv 1) (.iv 0) (.iv 1) (.iv 3) (.bv 0)], ⟨qdBs, []⟩, 4⟩
def qd0 (P : Program) (fn : Func) : Rs := run P [] 10 400 4 (.code (pre [1, 1, 0] (bodyOf fn))) (enterS fn [.one (.c (.ptr 0 0)), iI 2] qdSt)
def q3Bs : List Bd := [⟨.iv 4, 0, 4096⟩, B61 (.iv 0), B61 (.iv 1)]
def qdT (P : Program) (fn : Func) : Sy.St := tplK (lfAt (qd0 P fn) 0) [0] [(5, iI 4)] [] ⟨q3Bs, []⟩ 10
def slZ : SV := .one (.c (.slc 40 0 (.il 0) (.il 0)))
def slY : SV := .one (.c (.slt 40 1 (.il 0) (.iv 4) (.il 0)))
def qdZ (P : Program) (fn : Func) : Sy.St := ((qdT P fn).new 40 5 []).put (some 6) slZ
def q4Bs : List Bd := [⟨.iv 4, 1, 4096⟩, ⟨.iv 5, 0, 4096⟩, ⟨tlen (.cv 2), 0, 4096⟩, B61 (.iv 0), B61 (.iv 1)]
def q4Cx : Cx := ⟨q4Bs, [.le (.iv 4) (tlen (.cv 2)), .le (tlen (.cv 2)) (.iv 4)]⟩
def qdY (P : Program) (fn : Func) : Sy.St := { ((qdT P fn).growT 40 5 none [.int .u8] (.cv 2)).put (some 6) slY with cx := q4Cx }
def qd1 (P : Program) (fn : Func) : Rs := run P [] 10 400 4 (.code (pre [0, 1, 2] (Sy.sub [1, 1, 1] (bodyOf fn)))) (qdY P fn)
def qdL (P : Program) (fn : Func) : Sy.St := tplK (lfAt (qd1 P fn) 0) [0, 5, 6, 16] [(17, iI 5)] [] q4Cx 50
def qd2 (P : Program) (fn : Func) : Rs := run P [] 10 400 4 (.code (lpBody (Sy.sub [0, 1, 2] (Sy.sub [1, 1, 1] (bodyOf fn))))) (qdL P fn)
def qd3 (P : Program) (fn : Func) : Rs := run P [] 10 400 4 (.code (pre [1] (Sy.sub [1, 1, 1, 1] (bodyOf fn)))) (lfAt (qd2 P fn) 2)
def qdTb : Bk := ⟨40, 5, [], true, none, .tab [.int .u8] (.cv 2)⟩
def qdWc : Cx := ⟨[⟨.iv 4, 1, 4096⟩, ⟨.len (.sv 1), 0, 4096⟩, B61 (.iv 0), B61 (.iv 1)], [.le (.iv 4) (.len (.sv 1)), .le (.len (.sv 1)) (.iv 4)]⟩
def qdW (P : Program) (fn : Func) : Sy.St := { Sy.asRow (lfAt (qd3 P fn) 0) qdTb (.sv 1) with cx := qdWc }
def qdE (e : Tm) : Tm := .ite (.lt (.sub e (.iv 0)) rdMx) (.sub e (.iv 0)) rdMx
set_option maxRecDepth 100000 in
theorem qd_run0 : shR 4 none (qd0 Try.prog Try.f13) = some [.out 0 .normal [.bv 0], .out 1 .normal [.not (.bv 0)]] := by kernel_rfl
set_option maxRecDepth 100000 in
theorem qd_match0 : (matchS 4 (qdT Try.prog Try.f13) (lfAt (qd0 Try.prog Try.f13) 0)).map noU = some [.i 4 (qdE (.add (.iv 1) (.il (-1))))] := by kernel_rfl
set_option maxRecDepth 100000 in
theorem qd_match1 : (matchS 4 (qdT Try.prog Try.f13) (lfAt (qd0 Try.prog Try.f13) 1)).map noU = some [.i 4 (qdE (.iv 1))] := by kernel_rfl
theorem qd_info0 : ((Try.prog.info? 5).map fun i => (i.zero, i.size, i.bytes)) = some (some (.int .u8 0), 1, 1) := by kernel_rfl
theorem qd_info : ∃ i, Try.prog.info? 5 = some i ∧ i.zero = some (.int .u8 0) ∧ i.size = 1 ∧ i.bytes = 1 := by
  obtain ⟨i, hi, e⟩ := Option.map_eq_some_iff.1 qd_info0
  injection e with e1 e
  injection e with e2 e3
  exact ⟨i, hi, e1, e2, e3⟩
set_option maxRecDepth 100000 in
theorem qd_cxT : (qdT Try.prog Try.f13).cx = ⟨q3Bs, []⟩ := by kernel_rfl
/-- The region that makes the slice. -/
structure MkA (c : Code) (t n d1 d2 d3 : Nat) : Prop where
  c : ∃ o1 o2 o3 : Oper, c = .region (rgId c) #[o1, o2, o3] false ∧ (o1.guard = none ∧ o1.op = .move (.tmp n) ∧ o1.dst = some d1) ∧ (o2.guard = none ∧ o2.op = .makeSlice t (.tmp d1) (.tmp d1) ∧ o2.dst = some d2) ∧ (o3.guard = none ∧ o3.op = .assign (.tmp d2) ∧ o3.dst = some d3)
theorem qd_mk : MkA (Sy.sub [1, 1, 0] (bodyOf Try.f13)) 113 5 13 14 6 := ⟨Sy.opAt (Sy.sub [1, 1, 0] (bodyOf Try.f13)) 0, Sy.opAt (Sy.sub [1, 1, 0] (bodyOf Try.f13)) 1, Sy.opAt (Sy.sub [1, 1, 0] (bodyOf Try.f13)) 2, by kernel_rfl, ⟨by kernel_rfl, by kernel_rfl, by kernel_rfl⟩, ⟨by kernel_rfl, by kernel_rfl, by kernel_rfl⟩, ⟨by kernel_rfl, by kernel_rfl, by kernel_rfl⟩⟩
set_option maxRecDepth 100000 in
theorem qd_any : ((qdT Try.prog Try.f13).tm[5]?, (qdT Try.prog Try.f13).tm[13]?, noAny 13 ((qdT Try.prog Try.f13).tm.set 13 undS), (qdT Try.prog Try.f13).tm[14]?, noAny 14 ((qdT Try.prog Try.f13).tm.set 14 undS)) = (some (iI 4), some (.any 13), true, some (.any 14), true) := by kernel_rfl
set_option maxRecDepth 100000 in
theorem qd_free : ((qdT Try.prog Try.f13).free 40, (qdT Try.prog Try.f13).free 41) = (true, true) := by kernel_rfl
set_option maxRecDepth 100000 in
theorem qd_any14 : (((qdT Try.prog Try.f13).new 40 5 []).tm[14]?, noAny 14 (((qdT Try.prog Try.f13).new 40 5 []).tm.set 14 undS), ((qdT Try.prog Try.f13).growT 40 5 none [.int .u8] (.cv 2)).tm[14]?, noAny 14 (((qdT Try.prog Try.f13).growT 40 5 none [.int .u8] (.cv 2)).tm.set 14 undS)) = (some (.any 14), true, some (.any 14), true) := by kernel_rfl
set_option maxRecDepth 100000 in
theorem qd_endZ : smR Try.prog Try.f13 4 (run Try.prog [] 10 400 4 (.code (Sy.sub [1, 1, 1] (bodyOf Try.f13))) (qdZ Try.prog Try.f13)) = some [.ret (.one (.c (.str (.sl [])))) [quO 0 true (.cv 0) (.cv 1) (.add (.iv 0) (.iv 4)) (.iv 1) (.iv 3) (.bv 0)] []] := by kernel_rfl
set_option maxRecDepth 100000 in
theorem qd_run1 : shR 4 (some (qdL Try.prog Try.f13)) (qd1 Try.prog Try.f13) = some [.back [.i 5 (.il 0)] q4Cx.pc] := by kernel_rfl
set_option maxRecDepth 100000 in
theorem qd_cxL : (qdL Try.prog Try.f13).cx = q4Cx := by kernel_rfl
def qdX : Tm := .tb .set (.cv 2) (.iv 5) (.tb (.cons (.int .u8)) (.tb (.get (.int .u8) 0) (.cv 0) (.md (.add (.iv 0) (.iv 5)) (.il 2048)) (.il 0)) trow (.il 0))
set_option maxRecDepth 100000 in
theorem qd_run2 : shR 4 (some (qdL Try.prog Try.f13)) (qd2 Try.prog Try.f13) = some [.must (.lt (.iv 5) (tlen (.cv 2))) (.lt (.iv 5) (.iv 4) :: q4Cx.pc), .back [.i 5 (.add (.iv 5) (.il 1)), .c 2 qdX] (.lt (.iv 5) (tlen (.cv 2)) :: .lt (.iv 5) (.iv 4) :: q4Cx.pc), .out 2 (.exit 0) (.not (.lt (.iv 5) (.iv 4)) :: q4Cx.pc)] := by kernel_rfl
theorem qd_loop : Code.loop (lpBody (Sy.sub [0, 1, 2] (Sy.sub [1, 1, 1] (bodyOf Try.f13)))) = Sy.sub [0, 1, 2] (Sy.sub [1, 1, 1] (bodyOf Try.f13)) := by kernel_rfl
set_option maxRecDepth 100000 in
theorem qd_run3 : shR 4 none (qd3 Try.prog Try.f13) = some [.out 0 .normal (.not (.lt (.iv 5) (.iv 4)) :: q4Cx.pc)] := by kernel_rfl
set_option maxRecDepth 100000 in
theorem qd_hp3 : (lfAt (qd3 Try.prog Try.f13) 0).hp = [quO 0 true (.cv 0) (.cv 1) (.add (.iv 0) (.iv 4)) (.iv 1) (.iv 3) (.bv 0), qdTb] := by kernel_rfl
set_option maxRecDepth 100000 in
theorem qd_endW : smR Try.prog Try.f13 4 (run Try.prog [] 10 400 4 (.code (Sy.sub [1, 1, 1, 1, 1] (bodyOf Try.f13))) (qdW Try.prog Try.f13)) = some [.ret (.one (.c (.str (.cut (.sv 1) (.il 0) (.iv 4))))) [quO 0 true (.cv 0) (.cv 1) (.add (.iv 0) (.iv 4)) (.iv 1) (.iv 3) (.bv 0)] qdWc.pc] := by kernel_rfl
/-! What it does. -/
def qdEnd (s : QS) : Int := if s.over then s.next - 1 else s.next
def qdN (s : QS) (most : Int) : Int := min (max most 0) (qdEnd s - s.read)
structure QdIn (s : QS) (most : Int) : Prop where
  ok : QuOk s.R s.H
  r0 : 0 ≤ s.read
  r1 : s.read ≤ 1153202979583557632
  e0 : s.read ≤ qdEnd s
  e1 : qdEnd s ≤ s.read + 2048
  a0 : -9223372036854775808 ≤ most
  a1 : most ≤ 9223372036854775807
def QdPost (w : World) (g : Nat) (s : QS) (most : Int) (v : Value) (w' : World) : Prop :=
  v = .string (rdS (byteQ s.R) s.read (qdN s most).toNat) ∧ Blk w' g 105 (qCells { s with read := s.read + qdN s most }) ∧ Only (· = g) w w'
section
variable {s : QS} {most : Int} {w : World} {g : Nat}
theorem byteQ_rng {R : List (List Value)} (hk : ∀ r ∈ R, kAll [.int .u8] r) (hl : R.length = 2048) (q : Int) : 0 ≤ byteQ R q ∧ byteQ R q ≤ 255 := by
  unfold byteQ
  have hlt : (q % 2048).toNat < R.length := by rw [hl]; exact mod_lt q
  have := hk _ (getD_mem hlt)
  generalize R.getD (q % 2048).toNat [] = r at this
  match r, this with
  | [v], h =>
    obtain ⟨n, rfl, hw⟩ := h.1
    have hw := of_wf hw
    show 0 ≤ IntKind.u8.wrap n ∧ IntKind.u8.wrap n ≤ 255
    rw [wrap_in hw.1 hw.2]
    exact hw
theorem rdS_rows {m : Int → Int} (hm : ∀ q, 0 ≤ m q ∧ m q ≤ 255) (p : Int) : ∀ k : Nat, rows8 (rdS m p k).data.toList = (List.range k).map fun j => [Value.int .u8 (m (p + (j : Nat)))]
  | 0 => rfl
  | k + 1 => by
    have e : (rdS m p (k + 1)).data.toList = (rdS m p k).data.toList ++ (chrOf (m (p + k))).data.toList := by
      show ((rdS m p k) ++ chrOf (m (p + k))).data.toList = _
      rw [ByteArray.data_append, Array.toList_append]
    have ih := rdS_rows hm p k
    unfold rows8 at ih ⊢
    rw [e, List.map_append, ih, chr_data (hm _).1 (hm _).2, List.range_succ, List.map_append]
    congr 1
    show [[Value.int .u8 ((UInt8.ofNat (m (p + k)).toNat).toNat : Int)]] = [[Value.int .u8 (m (p + k))]]
    have := hm (p + k)
    rw [UInt8.toNat_ofNat', Nat.mod_eq_of_lt (by omega)]
    congr 3
    omega
theorem made0 (n : Nat) : (madeCells (Value.int .u8 0).cells n).toList = List.replicate n (.int .u8 0) := by
  unfold madeCells
  apply List.ext_getElem?
  intro i
  rw [Array.getElem?_toList, Array.getElem?_map, List.getElem?_replicate]
  by_cases h : i < n
  · rw [if_pos h]
    simp [h, Value.cells, Nat.mod_one]
  · rw [if_neg h]
    simp [h]
structure QdI (s : QS) (most : Int) (ρ : Env) : Prop where
  g : ρ.good
  c0 : ρ.c 0 = s.R
  c1 : ρ.c 1 = s.H
  i0 : ρ.i 0 = s.read
  i1 : ρ.i 1 = s.next
  i3 : ρ.i 3 = s.fin
  i4 : ρ.i 4 = qdN s most
  b0 : ρ.b 0 = s.over
  s1 : ρ.s 1 = rdS (byteQ s.R) s.read (qdN s most).toNat
theorem QdI.cx (h : QdIn s most) {ρ : Env} (I : QdI s most ρ) : (qdT Try.prog Try.f13).cx.ok ρ := by
  rw [qd_cxT]
  obtain ⟨_, r0, r1, e0, e1, _, _⟩ := h
  obtain ⟨_, _, _, i0, i1, _, i4, _, _⟩ := I
  have hN : qdN s most = min (max most 0) (qdEnd s - s.read) := rfl
  have hE : s.next = qdEnd s ∨ s.next = qdEnd s + 1 := by unfold qdEnd; split <;> omega
  refine cxP ⟨?_, ?_, ?_, trivial⟩ trivial
  · show 0 ≤ ρ.i 4 ∧ ρ.i 4 ≤ 4096; omega
  · show 0 ≤ ρ.i 0 ∧ ρ.i 0 ≤ 2305843009213693952; omega
  · show 0 ≤ ρ.i 1 ∧ ρ.i 1 ≤ 2305843009213693952; omega
def tabAt' (s : QS) (n i : Nat) : List (List Value) := ((List.range i).map fun j => [Value.int .u8 (byteQ s.R (s.read + (j : Nat)))]) ++ List.replicate (n - i) [.int .u8 0]
theorem tabAt'_len (s : QS) {n i : Nat} (h : i ≤ n) : (tabAt' s n i).length = n := by
  unfold tabAt'
  simp
  omega
structure QlI (s : QS) (most : Int) (ρ : Env) : Prop where
  d : QdI s most ρ
  pos : 0 < qdN s most
  j0 : 0 ≤ ρ.i 5
  j1 : ρ.i 5 ≤ qdN s most
  c2 : ρ.c 2 = tabAt' s (qdN s most).toNat (ρ.i 5).toNat
theorem q4_ok (h : QdIn s most) {ρ : Env} (I : QlI s most ρ) : q4Cx.ok ρ := by
  obtain ⟨_, r0, r1, e0, e1, _, _⟩ := h
  obtain ⟨⟨_, _, _, i0, i1, _, i4, _, _⟩, pos, j0, j1, c2⟩ := I
  have hN : qdN s most = min (max most 0) (qdEnd s - s.read) := rfl
  have hE : s.next = qdEnd s ∨ s.next = qdEnd s + 1 := by unfold qdEnd; split <;> omega
  have hl : ((ρ.c 2).length : Int) = qdN s most := by rw [c2, tabAt'_len s (by omega)]; omega
  refine cxP ⟨?_, ?_, ?_, ?_, ?_, trivial⟩ ⟨?_, ?_, trivial⟩
  · show 1 ≤ ρ.i 4 ∧ ρ.i 4 ≤ 4096; omega
  · show 0 ≤ ρ.i 5 ∧ ρ.i 5 ≤ 4096; omega
  · show (0 : Int) ≤ ((ρ.c 2).length : Int) ∧ ((ρ.c 2).length : Int) ≤ 4096; omega
  · show 0 ≤ ρ.i 0 ∧ ρ.i 0 ≤ 2305843009213693952; omega
  · show 0 ≤ ρ.i 1 ∧ ρ.i 1 ≤ 2305843009213693952; omega
  · rw [t_le]; show ρ.i 4 ≤ ((ρ.c 2).length : Int); omega
  · rw [t_le]; show ((ρ.c 2).length : Int) ≤ ρ.i 4; omega
theorem qd_post (h : QdIn s most) {ρ : Env} (I : QdI s most ρ) {w2 : World} {β : Bn} {v : SV} (hH : Hp ρ (· = g) w (fun _ => g) 4 [quO 0 true (.cv 0) (.cv 1) (.add (.iv 0) (.iv 4)) (.iv 1) (.iv 3) (.bv 0)] β w2) (hv : v.den ρ β = .string (rdS (byteQ s.R) s.read (qdN s most).toNat)) : QdPost w g s most (v.den ρ β) w2 := by
  obtain ⟨h1, h2⟩ := quO_ok.1 (hH.hp _ (List.mem_cons_self ..))
  rw [hH.old 0 (show 0 < 4 by decide)] at h1
  refine ⟨hv, ?_, hH.only⟩
  have h1 : Blk w2 g _ (quCells (ρ.c 0) (ρ.c 1) (ρ.i 0 + ρ.i 4) (ρ.i 1) (ρ.i 3) (ρ.b 0)) := h1
  rw [I.c0, I.c1, I.i0, I.i4, I.i1, I.i3, I.b0] at h1
  exact h1
set_option maxRecDepth 100000 in
/-- The loop and what follows. -/
theorem qd_table (h : QdIn s most) {ρ : Env} (I : QlI s most ρ) (h5 : ρ.i 5 = 0) {β : Bn} {a : Act} {w1 : World} (hM : Md ρ (· = g) w (fun _ => g) 4 (qdY Try.prog Try.f13) β a w1) : (Sy.sub [1, 1, 1] (bodyOf Try.f13)).wp Try.prog (ctx Try.prog [1, 1] (bodyOf Try.f13) (bodyPost Try.prog Try.f13 (RetP (QdPost w g s most)))) a w1 := by
  refine part_preT (p := [0, 1, 2]) (r := qd1 Try.prog Try.f13) (T := qdL Try.prog Try.f13) rfl qd_run1 (QlI s most) (fun ρ I => by rw [qd_cxL]; exact q4_ok h I) I.d.g (fun q hq => by cases hq) ⟨?_, trivial⟩ ?_ hM
  · intro _ β u
    obtain ⟨⟨a1, a2, a3, a4, a5, a6, a7, a8, a9⟩, pos, j0, j1, c2⟩ := I
    refine ⟨⟨a1, a2, a3, a4, a5, a6, a7, a8, a9⟩, pos, Int.le_refl 0, by show (0 : Int) ≤ _; omega, ?_⟩
    show ρ.c 2 = tabAt' s (qdN s most).toNat 0
    rw [c2, h5]
    rfl
  · intro ρ2 I2 β2 a2 w2 M2
    rw [← qd_loop]
    refine loop_wp (w0 := w) (r := qd2 Try.prog Try.f13) rfl qd_run2 (QlI s most) (fun ρ => (qdN s most - ρ.i 5).toNat) (fun ρ I => I.d.g) (fun ρ I q hq => by cases hq) (fun ρ I => by rw [qd_cxL]; exact q4_ok h I) ?_ I2 M2
    intro ρ I
    have j0 := I.j0
    have j1 := I.j1
    have i4 := I.d.i4
    have c2 := I.c2
    have hl : ((ρ.c 2).length : Int) = qdN s most := by rw [c2, tabAt'_len s (by omega)]; omega
    refine ⟨?_, ?_, ?_, trivial⟩
    · intro hpc
      have h1 := hpc.1
      rw [t_lt] at h1 ⊢
      have h1 : ρ.i 5 < ρ.i 4 := h1
      show ρ.i 5 < ((ρ.c 2).length : Int)
      omega
    · intro hpc β u
      have h1 := hpc.2.1
      rw [t_lt] at h1
      have h1 : ρ.i 5 < ρ.i 4 := h1
      refine ⟨⟨⟨I.d.g, I.d.c0, I.d.c1, I.d.i0, I.d.i1, I.d.i3, I.d.i4, I.d.b0, I.d.s1⟩, I.pos, ?_, ?_, ?_⟩, ?_⟩
      · show 0 ≤ ρ.i 5 + 1; omega
      · show ρ.i 5 + 1 ≤ _; omega
      · show (ρ.c 2).set (ρ.i 5).toNat [.int .u8 (byteQ (ρ.c 0) (ρ.i 0 + ρ.i 5))] = tabAt' s (qdN s most).toNat (ρ.i 5 + 1).toNat
        rw [c2, I.d.c0, I.d.i0]
        obtain ⟨k, hk⟩ : ∃ k : Nat, ρ.i 5 = (k : Int) := ⟨(ρ.i 5).toNat, by omega⟩
        rw [hk]
        rw [show ((k : Int) + 1).toNat = k + 1 from by omega, Int.toNat_natCast]
        have hlt : k < (qdN s most).toNat := by omega
        unfold tabAt'
        rw [show (qdN s most).toNat - k = ((qdN s most).toNat - (k + 1)) + 1 from by omega, List.replicate_succ, List.range_succ, List.map_append, List.append_assoc]
        rw [List.set_append_right _ _ (by simp)]
        congr 1
        simp
      · show (qdN s most - (ρ.i 5 + 1)).toNat < (qdN s most - ρ.i 5).toNat; omega
    · intro hpc β a w' hM
      have h1 := hpc.1
      rw [t_not, t_lt] at h1
      have h1 : ¬ ρ.i 5 < ρ.i 4 := h1
      show (Sy.sub [1, 1, 1, 1] (bodyOf Try.f13)).wp Try.prog (ctx Try.prog [1, 1, 1] (bodyOf Try.f13) (bodyPost Try.prog Try.f13 (RetP (QdPost w g s most)))) a w'
      refine part_pre (B := ⟨ρ, (· = g), w, fun _ => g, 4⟩) (sp := []) (p := [1]) (r := qd3 Try.prog Try.f13) I.d.g (fun q hq => by cases hq) rfl rfl qd_run3 ⟨?_, trivial⟩ hM
      intro _ β3 a3 w3 M3
      have hrows : (den ρ (.cv 2)).c = rows8 (den ρ (.sv 1)).s.data.toList := by
        show ρ.c 2 = rows8 (ρ.s 1).data.toList
        rw [c2, I.d.s1, rdS_rows (byteQ_rng h.ok.rk h.ok.rl)]
        unfold tabAt'
        rw [show (ρ.i 5).toNat = (qdN s most).toNat from by omega, Nat.sub_self]
        simp
      have M4 := Sy.Md.asRow M3 (b := qdTb) (t := .cv 2) (str := .sv 1) (by rw [qd_hp3]; exact List.mem_cons_of_mem _ (List.mem_cons_self ..)) rfl rfl hrows
      have hsz : ((ρ.s 1).size : Int) = qdN s most := by rw [I.d.s1, rdS_size]; omega
      have hc : qdWc.ok ρ := by
        have hN := q4_ok h I
        have := h.r0
        have := h.r1
        have := h.e0
        have := h.e1
        have := I.d.i0
        have := I.d.i1
        have := I.pos
        have hN : qdN s most = min (max most 0) (qdEnd s - s.read) := rfl
        have hE : s.next = qdEnd s ∨ s.next = qdEnd s + 1 := by unfold qdEnd; split <;> omega
        refine cxP ⟨?_, ?_, ?_, ?_, trivial⟩ ⟨?_, ?_, trivial⟩
        · show 1 ≤ ρ.i 4 ∧ ρ.i 4 ≤ 4096; omega
        · show (0 : Int) ≤ ((ρ.s 1).size : Int) ∧ ((ρ.s 1).size : Int) ≤ 4096; omega
        · show 0 ≤ ρ.i 0 ∧ ρ.i 0 ≤ 2305843009213693952; omega
        · show 0 ≤ ρ.i 1 ∧ ρ.i 1 ≤ 2305843009213693952; omega
        · rw [t_le]; show ρ.i 4 ≤ ((ρ.s 1).size : Int); omega
        · rw [t_le]; show ((ρ.s 1).size : Int) ≤ ρ.i 4; omega
      have M5 : Md ρ (· = g) w (fun _ => g) 4 (qdW Try.prog Try.f13) β3 a3 w3 := ⟨M4.act, M4.hp, M4.ne, M4.may, hc, M4.only, M4.old⟩
      refine tail_fin (B := ⟨ρ, (· = g), w, fun _ => g, 4⟩) I.d.g (fun q hq => by cases hq) qd_endW ⟨?_, trivial⟩ M5
      intro _ β4 w4 hH
      refine qd_post h I.d hH ?_
      show Value.string ((ρ.s 1).extract (0 : Int).toNat (ρ.i 4).toNat) = _
      rw [← I.d.s1]
      congr 1
      exact (cut_whole _ rfl (by omega)).symm
set_option maxRecDepth 100000 in
theorem qread_calls (h : QdIn s most) (hO : Blk w g 105 (qCells s)) :
    Calls Try.prog 13 #[.pointer (some ⟨g, 0, none⟩), .int .i64 most] w (RetP (QdPost w g s most)) := by
  let F : ByteArray := rdS (byteQ s.R) s.read (qdN s most).toNat
  let ρ0 : Env := ⟨fun n => if n = 0 then s.read else if n = 1 then s.next else if n = 2 then most else if n = 3 then s.fin else 0, fun _ => s.over, fun _ => F, inF, fun _ => .bool false, fun _ => .bool false, fun n => if n = 0 then s.R else if n = 1 then s.H else tabAt' s (qdN s most).toNat 0⟩
  obtain ⟨_, r0, r1, e0, e1, a0, a1⟩ := id h
  have hN : qdN s most = min (max most 0) (qdEnd s - s.read) := rfl
  have hE : s.next = qdEnd s ∨ s.next = qdEnd s + 1 := by unfold qdEnd; split <;> omega
  have hcx : qdSt.cx.ok ρ0 := by
    refine cxP ⟨?_, ?_, ?_, trivial⟩ trivial
    · show 0 ≤ s.read ∧ s.read ≤ 2305843009213693952; omega
    · show 0 ≤ s.next ∧ s.next ≤ 2305843009213693952; omega
    · show -9223372036854775808 ≤ most ∧ most ≤ 9223372036854775807; omega
  have hM0 : Md ρ0 (· = g) w (fun _ => g) 4 qdSt (fun _ => g) ⟨#[], []⟩ w := Sy.Md.init ⟨quO_ok.2 ⟨hO, h.ok⟩, trivial⟩ ⟨trivial, trivial⟩ ⟨fun _ _ => rfl, trivial⟩ hcx rfl
  have hgood : ρ0.good := fun i => rfl
  obtain ⟨t5, e⟩ := Prod.mk.inj qd_any
  obtain ⟨t13, e⟩ := Prod.mk.inj e
  obtain ⟨n13, e⟩ := Prod.mk.inj e
  obtain ⟨t14, n14⟩ := Prod.mk.inj e
  obtain ⟨f40, f41⟩ := Prod.mk.inj qd_free
  obtain ⟨z14, e⟩ := Prod.mk.inj qd_any14
  obtain ⟨zn14, e⟩ := Prod.mk.inj e
  obtain ⟨y14, yn14⟩ := Prod.mk.inj e
  obtain ⟨ii, hi, hz, hsz, hby⟩ := qd_info
  have main : ∀ ρ : Env, QdI s most ρ → ρ.c 2 = tabAt' s (qdN s most).toNat 0 → ρ.i 5 = 0 → ∀ β a w1, Md ρ (· = g) w (fun _ => g) 4 (qdT Try.prog Try.f13) β a w1 → (Sy.sub [1, 1, 0] (bodyOf Try.f13)).wp Try.prog (ctx Try.prog [1, 1, 0] (bodyOf Try.f13) (bodyPost Try.prog Try.f13 (RetP (QdPost w g s most)))) a w1 := by
    intro ρ I hc2 h5 β a w1 hM
    obtain ⟨o1, o2, o3, hc, ⟨g1, p1, d1⟩, ⟨g2, p2, d2⟩, ⟨g3, p3, d3⟩⟩ := qd_mk.c
    rw [hc]
    refine wp_region_list ?_
    show wpList _ _ _ [o1, o2, o3] a w1
    obtain ⟨n, hn⟩ : ∃ n : Nat, qdN s most = (n : Int) := ⟨(qdN s most).toNat, by omega⟩
    refine wpList_val (v := .int .i64 (n : Int)) (w' := w1) g1 ?_ ?_
    · have := Sy.Md.slot hM t5
      have e5 : (iI 4).den ρ β = .int .i64 (n : Int) := by show Value.int .i64 (ρ.i 4) = _; rw [I.i4, hn]
      rw [e5] at this
      unfold execOp
      simp only [p1, this, Sem.run_bind, Sem.run_pure, Result.andThen_ok]
    rw [d1]
    have M1 := Sy.Md.putAny hM t13 n13 (.int .i64 (n : Int))
    have hrun : (Instr.makeSlice 113 (.int .i64 (n : Int)) (.int .i64 (n : Int))).run Try.prog w1 = .ok (.slice (some ⟨w1.heap.size, 0, none⟩) n n) (w1.alloc (.cells (madeCells (Value.int .u8 0).cells n) 5)) := by
      have := run_makeSlice (P := Try.prog) (w := w1) 113 5 ii (.int .u8 0) Try.underlying113 hi hz .i64 .i64 (n : Int) (n : Int) (by omega) (Int.le_refl _) (by rw [hsz]; omega) (by rw [hby]; omega) (by omega)
      rw [hsz, Nat.mul_one, Int.toNat_natCast] at this
      exact this
    refine wpList_val (v := .slice (some ⟨w1.heap.size, 0, none⟩) n n) (w' := w1.alloc (.cells (madeCells (Value.int .u8 0).cells n) 5)) g2 ?_ ?_
    · have h13 : (a.put (some 13) (.int .i64 (n : Int))).eval (.tmp 13) = .int .i64 (n : Int) := (Sy.Md.slot M1 t13).trans any_den
      unfold execOp
      simp only [p2, h13, Sem.run_bind, hrun, Result.andThen_ok, Sem.run_pure]
    rw [d2]
    have e14 : ∀ a' : Act, 14 < a'.tmps.size → (a'.put (some 14) (.slice (some ⟨w1.heap.size, 0, none⟩) n n)).eval (.tmp 14) = .slice (some ⟨w1.heap.size, 0, none⟩) n n := fun a' hlt => by
      show ((a'.tmps.setIfInBounds 14 _).getD 14 undef) = _
      simp [hlt]
    have hsize : 14 < (a.put (some 13) (.int .i64 (n : Int))).tmps.size := by
      rw [M1.act]
      have : 14 < (qdT Try.prog Try.f13).tm.length := (List.getElem?_eq_some_iff.1 t14).1
      simpa using this
    refine wpList_val (v := .slice (some ⟨w1.heap.size, 0, none⟩) n n) (w' := w1.alloc (.cells (madeCells (Value.int .u8 0).cells n) 5)) g3 ?_ ?_
    · unfold execOp
      simp only [p3, e14 _ hsize, Sem.run_bind, Sem.run_pure, Result.andThen_ok]
    rw [d3]
    refine wpList_nil ?_
    show (Sy.sub [1, 1, 1] (bodyOf Try.f13)).wp Try.prog (ctx Try.prog [1, 1] (bodyOf Try.f13) (bodyPost Try.prog Try.f13 (RetP (QdPost w g s most)))) _ _
    have hU : ∀ u, QdI s most { ρ with u := u } := fun u => ⟨I.g, I.c0, I.c1, I.i0, I.i1, I.i3, I.i4, I.b0, I.s1⟩
    by_cases hn0 : n = 0
    · subst hn0
      have M2 := Sy.Md.new M1 40 (by decide) f40 5 [] rfl
      have em : madeCells (Value.int .u8 0).cells 0 = #[] := by simp [madeCells]
      rw [em]
      have M3 := Sy.Md.putAny M2 z14 zn14 (.slice (some ⟨w1.heap.size, 0, none⟩) 0 0)
      have M4 := Sy.Md.put M3 (some 6) slZ
      have e6 : ∀ ρ' : Env, slZ.den ρ' (upd β 40 w1.heap.size) = .slice (some ⟨w1.heap.size, 0, none⟩) 0 0 := fun ρ' => by
        show Value.slice (some ⟨upd β 40 w1.heap.size 40, 0, none⟩) 0 0 = _
        rw [upd_new]
      rw [e6] at M4
      refine tail_fin (B := ⟨{ ρ with u := fun n => if n = 14 then .slice (some ⟨w1.heap.size, 0, none⟩) 0 0 else if n = 13 then .int .i64 ((0 : Nat) : Int) else ρ.u n }, (· = g), w, fun _ => g, 4⟩) (hU _).g (fun q hq => by cases hq) qd_endZ ⟨?_, trivial⟩ M4
      intro _ β4 w4 hH
      refine qd_post h (hU _) hH ?_
      show Value.string none8 = _
      rw [hn]
      rfl
    · have hG : GrownT w1 (w1.alloc (.cells (madeCells (Value.int .u8 0).cells n) 5)) 0 0 5 [.int .u8] (tabAt' s n 0) w1.heap.size n := by
        have hl : (tabAt' s n 0).length = n := tabAt'_len s (Nat.zero_le _)
        have hfl : (tabAt' s n 0).flatten = List.replicate n (.int .u8 0) := by
          unfold tabAt'
          show (List.replicate (n - 0) [Value.int .u8 0]).flatten = _
          rw [Nat.sub_zero]
          generalize n = k
          induction k with
          | zero => rfl
          | succ k ih => rw [List.replicate_succ, List.replicate_succ, List.flatten_cons, ih]; rfl
        refine ⟨⟨fun _ => ⟨madeCells (Value.int .u8 0).cells n, (Go.MapKept.heap_alloc w1 _).1, by rw [size_madeCells]; exact (Nat.mul_one n).symm, by unfold maxLen; omega, ?_⟩, by rw [hl]; exact Nat.le_refl n, fun r hr => ?_⟩, World.grownBy_alloc w1 _ none, .inr (.inr (Nat.le_refl _))⟩
        · rw [hfl, hl, made0]
          show List.take (n * 1) _ = _
          rw [Nat.mul_one, List.take_of_length_le (by simp)]
        · unfold tabAt' at hr
          have hr : r ∈ List.replicate (n - 0) [Value.int .u8 0] := hr
          rw [(List.mem_replicate.1 hr).2]
          exact ⟨⟨0, rfl, by decide⟩, trivial⟩
      have M2 := Sy.Md.growT M1 40 (by decide) f40 f41 hG (old := none) (t := .cv 2) (by show ρ.c 2 = _; rw [hc2, hn, Int.toNat_natCast]) (.inl rfl)
      have M3 := Sy.Md.putAny M2 y14 yn14 (.slice (some ⟨w1.heap.size, 0, none⟩) n n)
      have M4 := Sy.Md.put M3 (some 6) slY
      have e6 : ∀ u, slY.den { ρ with u := u } (upd (upd β 40 w1.heap.size) 41 n) = .slice (some ⟨w1.heap.size, 0, none⟩) n n := fun u => by
        show sltZ (upd (upd β 40 w1.heap.size) 41 n 40) (upd (upd β 40 w1.heap.size) 41 n 41) 1 0 (ρ.i 4).toNat 0 = _
        rw [upd_new, upd_old (by decide), upd_new, sltZ_zero, sltV_some hn0, I.i4, hn, Int.toNat_natCast]
      have hL : ∀ u, QlI s most { ρ with u := u } := fun u => ⟨hU u, by omega, by show 0 ≤ ρ.i 5; omega, by show ρ.i 5 ≤ _; omega, by show ρ.c 2 = tabAt' s _ (ρ.i 5).toNat; rw [hc2, h5]; rfl⟩
      have e6' := e6 (fun n_1 => if n_1 = 14 then .slice (some ⟨w1.heap.size, 0, none⟩) n n else if n_1 = 13 then .int .i64 (n : Int) else ρ.u n_1)
      rw [e6'] at M4
      have M5 : Md { ρ with u := fun n_1 => if n_1 = 14 then .slice (some ⟨w1.heap.size, 0, none⟩) n n else if n_1 = 13 then .int .i64 (n : Int) else ρ.u n_1 } (· = g) w (fun _ => g) 4 (qdY Try.prog Try.f13) _ _ _ := ⟨M4.act, M4.hp, M4.ne, M4.may, q4_ok h (hL _), M4.only, M4.old⟩
      exact qd_table h (hL (fun n_1 => if n_1 = 14 then .slice (some ⟨w1.heap.size, 0, none⟩) n n else if n_1 = 13 then .int .i64 (n : Int) else ρ.u n_1)) h5 M5
  refine calls_pre (B := ⟨ρ0, (· = g), w, fun _ => g, 4⟩) (sp := []) (p := [1, 1, 0]) (xs := [.one (.c (.ptr 0 0)), iI 2]) (s := qdSt) (r := qd0 Try.prog Try.f13) hgood (fun q hq => by cases hq) rfl Try.func13 rfl rfl qd_run0 hM0 ⟨?_, ?_, trivial⟩ rfl
  · intro hpc β a w1 hM
    have ho : s.over = true := hpc.1
    have hI : ∀ u, QdI s most { ρ0.sub β [.i 4 (qdE (.add (.iv 1) (.il (-1))))] with u := u } := fun u => by
      refine ⟨hgood, rfl, rfl, rfl, rfl, rfl, ?_, rfl, rfl⟩
      show (den ρ0 (qdE (.add (.iv 1) (.il (-1))))).i = _
      rw [qdE, i_min, rdMx, i_max]
      show min (s.next + -1 - s.read) (max most 0) = _
      unfold qdN qdEnd
      rw [ho, if_pos rfl]
      omega
    obtain ⟨u, β', M⟩ := Sy.Md.enter hM qd_match0 fun u => (hI u).cx h
    exact main _ (hI u) rfl rfl _ _ _ M
  · intro hpc β a w1 hM
    have ho : s.over = false := by
      have := hpc.1
      rw [t_not] at this
      cases q : s.over with
      | false => rfl
      | true => exact absurd q this
    have hI : ∀ u, QdI s most { ρ0.sub β [.i 4 (qdE (.iv 1))] with u := u } := fun u => by
      refine ⟨hgood, rfl, rfl, rfl, rfl, rfl, ?_, rfl, rfl⟩
      show (den ρ0 (qdE (.iv 1))).i = _
      rw [qdE, i_min, rdMx, i_max]
      show min (s.next - s.read) (max most 0) = _
      unfold qdN qdEnd
      rw [ho, if_neg (by decide)]
      omega
    obtain ⟨u, β', M⟩ := Sy.Md.enter hM qd_match1 fun u => (hI u).cx h
    exact main _ (hI u) rfl rfl _ _ _ M
end
end Go.Proofs.Ytnjpoidpfcfbeaa
