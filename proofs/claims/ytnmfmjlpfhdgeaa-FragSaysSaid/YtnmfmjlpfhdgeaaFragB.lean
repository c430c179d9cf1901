/- Fragments: the table's content, plainly; what the calls do. -/
import Derived.Test.YtnmfmjlpfhdgeaaFragA
namespace Go.Proofs.Ytnmfmjlpfhdgeaa
open Go.RowKit Sy
set_option linter.unusedVariables false
set_option linter.unusedSimpArgs false

/-- What is open: its age, its fragments. -/
abbrev Ent := Int × Rws
def nameOf (r : List Value) : List Value := [r.getD 0 (.bool false), r.getD 1 (.bool false), r.getD 2 (.bool false), r.getD 4 (.bool false)]
def enN (e : Ent) : List Value := nameOf (e.2.headD [])
def nmLv : List Kd := [.int .u32, .int .u32, .int .i64, .int .i64]
theorem nameOf_ok {r : List Value} (h : kAll pkLv r) : kAll nmLv (nameOf r) := by
  obtain ⟨v0, r0, e0, h0, t0⟩ := kAll_cons h
  obtain ⟨v1, r1, e1, h1, t1⟩ := kAll_cons t0
  obtain ⟨v2, r2, e2, h2, t2⟩ := kAll_cons t1
  obtain ⟨v3, r3, e3, h3, t3⟩ := kAll_cons t2
  obtain ⟨v4, r4, e4, h4, t4⟩ := kAll_cons t3
  subst e4 e3 e2 e1
  rw [e0]
  exact ⟨h0, h1, h2, h4, trivial⟩
def isN (k : List Value) (e : Ent) : Bool := sqR (enN e) k
structure EOk (e : Ent) : Prop where
  ne : e.2 ≠ []
  gl : GL e.2
  nm : ∀ q ∈ e.2, nameOf q = enN e
  a0 : 0 ≤ e.1
  a1 : e.1 < 30
structure FOk (es : List Ent) : Prop where
  ok : ∀ e ∈ es, EOk e
  l8 : es.length ≤ 8
  nd : (es.map enN).Nodup
theorem FOk.nil : FOk [] := ⟨fun _ h => (by cases h), by decide, List.nodup_nil⟩
theorem EOk.head {e : Ent} (h : EOk e) : e.2.headD [] ∈ e.2 := by
  cases hl : e.2 with
  | nil => exact absurd hl h.ne
  | cons a l => exact List.mem_cons_self ..
theorem EOk.name {e : Ent} (h : EOk e) : kAll nmLv (enN e) := nameOf_ok (h.gl.row _ h.head).ok
/-- At which place it is. -/
def ixN (k : List Value) (es : List Ent) : Option Nat := match es with
  | [] => none
  | e :: l => if isN k e then some 0 else (ixN k l).map (· + 1)
theorem ixN_some {k : List Value} : ∀ {es : List Ent} {i : Nat}, ixN k es = some i → i < es.length ∧ isN k (es.getD i (0, [])) = true
  | [], i, h => by cases h
  | e :: l, i, h => by
    rw [ixN] at h
    split at h
    · injection h with h
      subst h
      exact ⟨by simp, by simpa⟩
    · obtain ⟨j, hj, rfl⟩ := Option.map_eq_some_iff.1 h
      obtain ⟨h1, h2⟩ := ixN_some hj
      exact ⟨by simp; omega, h2⟩
theorem ixN_none {k : List Value} : ∀ {es : List Ent}, ixN k es = none → ∀ e ∈ es, isN k e = false
  | [], _, e, h => by cases h
  | a :: l, h, e, he => by
    rw [ixN] at h
    split at h
    · cases h
    · rename_i q
      rcases List.mem_cons.1 he with rfl | he
      · simpa using q
      · exact ixN_none (Option.map_eq_none_iff.1 h) e he
/-! A packet that comes. -/
def pPro (p : List Value) : Int := gI .i64 p 2
def pTtl (p : List Value) : Int := gI .i64 p 3
def pId (p : List Value) : Int := gI .i64 p 4
def pSz (p : List Value) : Int := ((pBody p).size : Int)
def chkP (p : List Value) : Int := if (pPro p < 0 ∨ 255 < pPro p) ∨ (pTtl p < 0 ∨ 255 < pTtl p) ∨ (pId p < 0 ∨ 65535 < pId p) ∨ (pOff p < 0 ∨ 8191 < pOff p) then 1 else if 1400 < pSz p then 2 else 0
/-- Does it go into the table? -/
structure TbP (p : List Value) : Prop where
  ok : kAll pkLv p
  pr : 0 ≤ pPro p ∧ pPro p ≤ 255
  tt : 0 ≤ pTtl p ∧ pTtl p ≤ 255
  id : 0 ≤ pId p ∧ pId p ≤ 65535
  of : 0 ≤ pOff p ∧ pOff p ≤ 8191
  sz : pSz p ≤ 1400
  m0 : pMore p = false → pOff p ≠ 0
  m1 : pMore p = true → pSz p ≠ 0 ∧ pSz p % 8 = 0
  to : pTo p ≤ 4000
def hdE (p : List Value) : Int := if chkP p ≠ 0 then chkP p else if pMore p = false ∧ pOff p = 0 then 0 else if pMore p = true ∧ (pSz p = 0 ∨ pSz p % 8 ≠ 0) then 4 else if 4000 < pTo p then 2 else 0
def hdB (p : List Value) : Bool := decide (chkP p = 0 ∧ pMore p = false ∧ pOff p = 0)
def hdK (p : List Value) : List Value := if hdB p then p else noPk
theorem TbP.row {p : List Value} (h : TbP p) : GRow p := by
  refine ⟨h.ok, h.of.1, h.to, fun e => ?_⟩
  have : pTo p = 8 * pOff p + pSz p := rfl
  have h0 : (0 : Int) ≤ pSz p := by unfold pSz; omega
  cases hm : pMore p with
  | false => exact absurd e (h.m0 hm)
  | true => have := (h.m1 hm).1; omega
theorem tbP_of {p : List Value} (hk : kAll pkLv p) (h0 : chkP p = 0) (h1 : ¬ (pMore p = false ∧ pOff p = 0)) (h2 : ¬ (pMore p = true ∧ (pSz p = 0 ∨ pSz p % 8 ≠ 0))) (h3 : ¬ 4000 < pTo p) : TbP p := by
  unfold chkP at h0
  split at h0
  · cases h0
  · split at h0
    · cases h0
    · rename_i q1 q2
      exact ⟨hk, by omega, by omega, by omega, by omega, by omega, fun e z => h1 ⟨e, z⟩, fun e => by
        by_cases z : pSz p = 0 ∨ pSz p % 8 ≠ 0
        · exact absurd ⟨e, z⟩ h2
        · omega, by omega⟩
theorem TbP.new {p : List Value} (h : TbP p) : GL [p] ∧ dnB [p] = false := by
  have hr := h.row
  have hG : GL [p] := ⟨fun q hq => by rw [List.mem_singleton.1 hq]; exact hr, fun a ha b hb => by rw [List.mem_singleton.1 ha, List.mem_singleton.1 hb]; exact fgt_self hr⟩
  refine ⟨hG, ?_⟩
  cases hd : dnB [p] with
  | false => rfl
  | true =>
    exfalso
    unfold dnB at hd
    rw [Bool.and_eq_true, decide_eq_true_eq, List.all_eq_true] at hd
    have hm : pMore p = false := by
      cases hm : pMore p with
      | false => rfl
      | true =>
        have := hd.1
        unfold enOf at this
        rw [show List.find? (fun q => !(pMore q)) [p] = none by simp [hm]] at this
        change (0 : Int) ≤ -1 at this
        omega
    have hall : ∀ j : Nat, (j : Int) < enOf [p] → hsAt [p] (j : Int) = true := fun j hj => hd.2 j (List.mem_range.2 (by omega))
    obtain ⟨hk, hpos⟩ := dn_known hG hd.1 hall
    obtain ⟨y, hy, hc⟩ := hs_iff.1 (hall 0 hpos)
    rw [List.mem_singleton.1 hy] at hc
    have c1 := (cov_iff.1 hc).1
    have := hr.o0
    have : pFrom p = 8 * pOff p := rfl
    exact h.m0 hm (by omega)
/-- The bytes that are there. -/
def boS (l : Rws) : ByteArray := strT ((byT l).take (enOf l).toNat)
/-- The packet that is whole. -/
def whP (l : Rws) : List Value := [(fsC l).getD 0 (.bool false), (fsC l).getD 1 (.bool false), (fsC l).getD 2 (.bool false), (fsC l).getD 3 (.bool false), (fsC l).getD 4 (.bool false), (fsC l).getD 5 (.bool false), .bool false, .int .i64 0, .string (boS l)]
/-- Of a packet that goes into the table: what is answered, what is left. -/
structure Ans where
  k : List Value
  b : Bool
  e : Int
  es : List Ent
def tbA (es : List Ent) (p : List Value) : Ans := match ixN (nameOf p) es with
  | none => if es.length = 8 then ⟨noPk, false, 9, es⟩ else ⟨noPk, false, 0, es ++ [(0, [p])]⟩
  | some i => if (es.getD i (0, [])).2.any (fgt p) then ⟨noPk, false, 4, es.eraseIdx i⟩
    else if dnB ((es.getD i (0, [])).2 ++ [p]) then ⟨whP ((es.getD i (0, [])).2 ++ [p]), true, 0, es.eraseIdx i⟩
    else ⟨noPk, false, 0, es.set i ((es.getD i (0, [])).1, (es.getD i (0, [])).2 ++ [p])⟩
def isT (p : List Value) : Bool := decide (chkP p = 0 ∧ ¬ (pMore p = false ∧ pOff p = 0) ∧ ¬ (pMore p = true ∧ (pSz p = 0 ∨ pSz p % 8 ≠ 0)) ∧ ¬ 4000 < pTo p)
theorem isT_ok {p : List Value} (hk : kAll pkLv p) (h : isT p = true) : TbP p := by
  unfold isT at h
  rw [decide_eq_true_eq] at h
  exact tbP_of hk h.1 h.2.1 h.2.2.1 h.2.2.2
theorem TbP.isT {p : List Value} (h : TbP p) : isT p = true := by
  unfold Go.Proofs.Ytnmfmjlpfhdgeaa.isT
  rw [decide_eq_true_eq]
  have h1 := h.pr
  have h2 := h.tt
  have h3 := h.id
  have h4 := h.of
  have h5 := h.sz
  refine ⟨?_, fun e => h.m0 e.1 e.2, fun e => ?_, by have := h.to; omega⟩
  · unfold chkP
    rw [if_neg (by omega), if_neg (by omega)]
  · have := h.m1 e.1
    omega
def inA' (es : List Ent) (p : List Value) : Ans := if isT p then tbA es p else ⟨hdK p, hdB p, hdE p, es⟩
/-- Time goes by. -/
def tkE (n : Int) : Int := if n < 0 then 1 else 0
def tkL (es : List Ent) (n : Int) : List Ent := if n < 0 then es else (es.filter fun e => decide (n < 30 - e.1)).map fun e => (e.1 + n, e.2)
/-! It stays as it is to be. -/
theorem FOk.erase {es : List Ent} (h : FOk es) (i : Nat) : FOk (es.eraseIdx i) :=
  ⟨fun e he => h.ok e (List.mem_of_mem_eraseIdx he), Nat.le_trans (List.length_eraseIdx_le _ _) h.l8, List.Nodup.sublist ((List.eraseIdx_sublist es i).map enN) h.nd⟩
theorem getD_at {es : List Ent} {i : Nat} (hi : i < es.length) : es.getD i (0, []) = es[i] := by rw [List.getD_eq_getElem?_getD, List.getElem?_eq_getElem hi]; rfl
theorem isN_eq {k : List Value} {e : Ent} (he : EOk e) (hk : kAll nmLv k) (h : isN k e = true) : enN e = k := (sqR_iff he.name hk).1 h
theorem enN_snoc (a : Int) {l : Rws} (hl : l ≠ []) (p : List Value) : enN (a, l ++ [p]) = enN (a, l) := by
  cases l with
  | nil => exact absurd rfl hl
  | cons x l => rfl
theorem FOk.put {es : List Ent} (h : FOk es) {i : Nat} (hi : i < es.length) {p : List Value} (hp : GRow p) (hn : nameOf p = enN (es.getD i (0, []))) (hf : (es.getD i (0, [])).2.any (fgt p) = false) : FOk (es.set i ((es.getD i (0, [])).1, (es.getD i (0, [])).2 ++ [p])) := by
  rw [getD_at hi] at *
  have he := h.ok _ (List.getElem_mem hi)
  have hnm : enN (es[i].1, es[i].2 ++ [p]) = enN es[i] := enN_snoc _ he.ne p
  refine ⟨fun e hm => ?_, by rw [List.length_set]; exact h.l8, ?_⟩
  · rcases List.mem_or_eq_of_mem_set hm with q | q
    · exact h.ok e q
    · rw [q]
      refine ⟨by simp, he.gl.snoc hp hf, fun q hq => ?_, he.a0, he.a1⟩
      rw [hnm]
      rcases List.mem_append.1 hq with hq | hq
      · exact he.nm q hq
      · rw [List.mem_singleton.1 hq]; exact hn
  · rw [List.map_set, hnm]
    have : (es.map enN).set i (enN es[i]) = es.map enN := by
      apply List.ext_getElem?
      intro j
      rw [List.getElem?_set]
      split
      · rename_i e
        subst e
        rw [if_pos (by simpa using hi), List.getElem?_map, List.getElem?_eq_getElem hi]
        rfl
      · rfl
    rw [this]
    exact h.nd
theorem FOk.more {es : List Ent} (h : FOk es) {p : List Value} (hp : TbP p) (h8 : es.length ≠ 8) (hx : ixN (nameOf p) es = none) : FOk (es ++ [(0, [p])]) := by
  have h8' := h.l8
  refine ⟨fun e he => ?_, by rw [List.length_append, List.length_singleton]; omega, ?_⟩
  · rcases List.mem_append.1 he with he | he
    · exact h.ok e he
    · rw [List.mem_singleton.1 he]
      exact ⟨by simp, hp.new.1, fun q hq => by rw [List.mem_singleton.1 hq]; rfl, Int.le_refl _, by show (0 : Int) < 30; omega⟩
  · rw [List.map_append, List.nodup_append]
    refine ⟨h.nd, by simp, fun a ha b hb => ?_⟩
    obtain ⟨e, he, rfl⟩ := List.mem_map.1 ha
    rw [List.map_cons, List.map_nil, List.mem_singleton] at hb
    subst hb
    intro q
    have := ixN_none hx e he
    unfold isN at this
    rw [q] at this
    rw [show enN ((0 : Int), [p]) = nameOf p from rfl, sqR_refl] at this
    cases this
theorem FOk.tick {es : List Ent} (h : FOk es) (n : Int) : FOk (tkL es n) := by
  unfold tkL
  split
  · exact h
  · rename_i hn
    refine ⟨fun e he => ?_, ?_, ?_⟩
    · obtain ⟨x, hx, rfl⟩ := List.mem_map.1 he
      obtain ⟨hx, hlt⟩ := List.mem_filter.1 hx
      have ho := h.ok x hx
      have a0 := ho.a0
      have hlt := of_decide_eq_true hlt
      exact ⟨ho.ne, ho.gl, ho.nm, by show 0 ≤ x.1 + n; omega, by show x.1 + n < 30; omega⟩
    · rw [List.length_map]
      exact Nat.le_trans (List.length_filter_le ..) h.l8
    · rw [List.map_map]
      exact List.Nodup.sublist ((List.filter_sublist).map enN) h.nd
theorem FOk.tbA {es : List Ent} (h : FOk es) {p : List Value} (hp : TbP p) : FOk (tbA es p).es := by
  unfold Go.Proofs.Ytnmfmjlpfhdgeaa.tbA
  cases hx : ixN (nameOf p) es with
  | none =>
    simp only
    split
    · exact h
    · rename_i h8; exact h.more hp h8 hx
  | some i =>
    obtain ⟨hi, hN⟩ := ixN_some hx
    simp only
    split
    · exact h.erase i
    · rename_i hf
      split
      · exact h.erase i
      · refine h.put hi hp.row ?_ (by simpa using hf)
        rw [getD_at hi] at hN ⊢
        exact (isN_eq (h.ok _ (List.getElem_mem hi)) (nameOf_ok hp.ok) hN).symm
theorem FOk.inA {es : List Ent} (h : FOk es) {p : List Value} (hk : kAll pkLv p) : FOk (inA' es p).es := by
  unfold inA'
  split
  · rename_i q; exact h.tbA (isT_ok hk q)
  · exact h
/-! As rows. -/
def encE (e : Ent) : List Value := .int .i64 e.1 :: e.2.flatten
def ch9 : Nat → List Value → Rws
  | 0, _ => []
  | n + 1, l => if l.isEmpty then [] else l.take 9 :: ch9 n (l.drop 9)
def decE (r : List Value) : Ent := (gI .i64 r 0, ch9 r.length (r.drop 1))
theorem ch9_flat : ∀ {l : Rws} {n : Nat}, (∀ r ∈ l, r.length = 9) → l.flatten.length ≤ n → ch9 n l.flatten = l
  | [], n, _, _ => by cases n <;> rfl
  | r :: l, 0, h, hn => by
    have := h r (List.mem_cons_self ..)
    simp only [List.flatten_cons, List.length_append] at hn
    omega
  | r :: l, n + 1, h, hn => by
    have hr := h r (List.mem_cons_self ..)
    rw [ch9, List.flatten_cons]
    have h1 : (r ++ l.flatten).isEmpty = false := by
      cases r with
      | nil => cases hr
      | cons _ _ => rfl
    rw [h1, if_neg (by decide), List.take_left' hr, List.drop_left' hr, ch9_flat (fun q hq => h q (List.mem_cons_of_mem _ hq)) (by simp only [List.flatten_cons, List.length_append] at hn; omega)]
theorem dec_enc {e : Ent} (h : EOk e) : decE (encE e) = e := by
  unfold decE encE
  have a0 := h.a0
  have a1 := h.a1
  rw [gI_lit (k := .i64) (l := .int .i64 e.1 :: e.2.flatten) (i := 0) rfl (show (-9223372036854775808 : Int) ≤ e.1 by omega) (show e.1 ≤ (9223372036854775807 : Int) by omega)]
  rw [List.drop_one, List.tail_cons, ch9_flat (fun r hr => kAll_len (h.gl.row r hr).ok) (by rw [List.length_cons]; omega)]
def decs (c : Rws) : List Ent := c.map decE
def encs (es : List Ent) : Rws := es.map encE
theorem decs_encs {es : List Ent} (h : FOk es) : decs (encs es) = es := by
  unfold decs encs
  rw [List.map_map]
  conv => rhs; rw [← List.map_id es]
  apply List.map_congr_left
  intro e he
  exact dec_enc (h.ok e he)
end Go.Proofs.Ytnmfmjlpfhdgeaa
/- Frames: a block told anew, a slot told anew, a block of any kind brought out; free of the program's names. -/
namespace Go.Proofs.Ytnmfmjlpfhdgeaa
open Go.RowKit Sy
set_option linter.unusedVariables false
set_option linter.unusedSimpArgs false
section
variable {ρ : Env} {S : Nat → Prop} {w0 w : World} {β0 β : Bn} {n0 : Nat} {s : Sy.St} {a : Act}
/-- A slot told anew. -/
theorem Md.retell (hM : Md ρ S w0 β0 n0 s β a w) (d : Nat) (v : SV) (h : v.den ρ β = (s.tm.getD d undS).den ρ β) : Md ρ S w0 β0 n0 { s with tm := s.tm.set d v } β a w :=
  ⟨by rw [hM.act]; show (⟨_, []⟩ : Act) = ⟨((s.tm.set d v).map (SV.den ρ β)).toArray, []⟩; rw [set_getD_map (SV.den ρ β) undS s.tm d v h], hM.hp, hM.ne, hM.may, hM.cx, hM.only, hM.old⟩
theorem Md.cxTo (hM : Md ρ S w0 β0 n0 s β a w) (c : Cx) (hc : c.ok ρ) : Md ρ S w0 β0 n0 { s with cx := c } β a w := ⟨hM.act, hM.hp, hM.ne, hM.may, hc, hM.only, hM.old⟩
theorem Md.nxTo (hM : Md ρ S w0 β0 n0 s β a w) (n : Nat) : Md ρ S w0 β0 n0 { s with nx := n } β a w := ⟨hM.act, hM.hp, hM.ne, hM.may, hM.cx, hM.only, hM.old⟩
/-- A block of fixed cells told anew. -/
theorem Md.reBk (hM : Md ρ S w0 β0 n0 s β a w) {b b' : Bk} (hb : b ∈ s.hp) (hl : b'.l = b.l) (hr : b'.rw = true → b.rw = true) (ho : b.own = false) (ho' : b'.own = false) (hn : b.nilable = false) (hn' : b'.nilable = false) (h : BkOk ρ β w b') : Md ρ S w0 β0 n0 { s with hp := replHp b' s.hp } β a w := by
  have like : ∀ {x : Bk}, x ∈ replHp b' s.hp → ∃ y ∈ s.hp, y.l = x.l ∧ (x.real β → y.real β) ∧ (∀ g, fp β x g → fp β y g) ∧ (x.rw = true → y.rw = true) := fun {x} hx => by
    rcases repl_mem hx with rfl | ⟨hx, _⟩
    · refine ⟨b, hb, hl.symm, fun _ => .inl hn, fun g hg => ?_, hr⟩
      rw [fp_one ho' hg, hl]
      exact fp_root β b
    · exact ⟨x, hx, rfl, fun h => h, fun g h => h, fun h => h⟩
  refine ⟨hM.act, fun x hx => ?_, fun x hx y hy hxy rx ry g gx gy => ?_, fun x hx hw hr g hg => ?_, hM.cx, hM.only, hM.old⟩
  · rcases repl_mem hx with rfl | ⟨hx, _⟩
    · exact h
    · exact hM.hp x hx
  · obtain ⟨x', hx', ex, rx', fx, _⟩ := like hx
    obtain ⟨y', hy', ey, ry', fy, _⟩ := like hy
    exact hM.ne x' hx' y' hy' (by rw [ex, ey]; exact hxy) (rx' rx) (ry' ry) g (fx g gx) (fy g gy)
  · obtain ⟨x', hx', ex, rx', fx, wx⟩ := like hx
    exact hM.may x' hx' (wx hw) (rx' hr) g (fx g hg)
/-- A block brought out, under the letter n. -/
def St.focusB (s : Sy.St) (n : Nat) (b : Bk) (t : Tm) : Sy.St := { s with hp := b :: ⟨n + 2, 0, [.ptr n 0], false, none, .al t⟩ :: s.hp }
theorem Md.focusB (hM : Md ρ S w0 β0 n0 s β a w) (n : Nat) (hn : n0 ≤ n) (h0 : s.free n = true) (h1 : s.free (n + 1) = true) (h2 : s.free (n + 2) = true) (h3 : s.free (n + 3) = true) {g : Nat} {b : Bk} {t : Tm} (hbl : b.l = n) (hbo : b.own = false)
    (hg : (den ρ t).i.toNat = g) (hB : ∀ β, β n = g → BkOk ρ β w b) (hne : ∀ x ∈ s.hp, x.real β → ¬ fp β x g) (hmay : b.rw = true → S g ∨ w0.heap.size ≤ g) : ∃ β', Md ρ S w0 β0 n0 (St.focusB s n b t) β' a w ∧ β' n = g := by
  have M1 := Sy.Md.letter hM n g 0 hn h0 h1
  have M2 := Sy.Md.letter M1 (n + 2) g 0 (by omega) h2 h3
  obtain ⟨β1, hβ1⟩ : ∃ β1, upd (upd (upd (upd β n g) (n + 1) 0) (n + 2) g) (n + 2 + 1) 0 = β1 := ⟨_, rfl⟩
  rw [hβ1] at M2
  have e0 : β1 n = g := by rw [← hβ1, upd_old (by omega), upd_old (by omega), upd_old (by omega), upd_new]
  have e3 : β1 (n + 2 + 1) = 0 := by rw [← hβ1, upd_new]
  have hnr : ¬ Bk.real β1 ⟨n + 2, 0, [.ptr n 0], false, none, .al t⟩ := fun hr => by
    rcases hr with hr | hr
    · cases hr
    · exact hr e3
  have old : ∀ x ∈ s.hp, β1 x.l = β x.l ∧ β1 (x.l + 1) = β (x.l + 1) ∧ denL ρ β1 x.cs = denL ρ β x.cs := fun x hx => by
    unfold St.free at h0 h1 h2 h3
    simp only [Bool.and_eq_true, List.all_eq_true, Bool.not_eq_true'] at h0 h1 h2 h3
    have q0 := h0.2 x hx
    have q1 := h1.2 x hx
    have q2 := h2.2 x hx
    have q3 := h3.2 x hx
    rw [← hβ1]
    exact ⟨by rw [upd_old (beq_ne q3.1), upd_old (beq_ne q2.1), upd_old (beq_ne q1.1), upd_old (beq_ne q0.1)], by rw [upd_old (beq_ne q3.2.2), upd_old (beq_ne q2.2.2), upd_old (beq_ne q1.2.2), upd_old (beq_ne q0.2.2)], (denL_upd ρ q3.2.1).trans ((denL_upd ρ q2.2.1).trans ((denL_upd ρ q1.2.1).trans (denL_upd ρ q0.2.1)))⟩
  have M3 := Sy.Md.addBk M2 ⟨n + 2, 0, [.ptr n 0], false, none, .al t⟩ (by
    show β1 (n + 2 + 1) = 0 ∧ (denL ρ β1 [.ptr n 0] = _ ∨ _)
    refine ⟨e3, .inl ?_⟩
    show [Value.pointer (some ⟨β1 n, 0, none⟩)] = _
    rw [e0, hg]) (fun x hx _ hr => absurd hr hnr) (fun h => by cases h)
  refine ⟨β1, Sy.Md.addBk M3 b (hB β1 e0) (fun x hx hrx hrb i hi hix => ?_) (fun hw hr i hi => ?_), e0⟩
  · have ei : i = g := (fp_one hbo hi).trans (by rw [hbl]; exact e0)
    rw [ei] at hix
    rcases List.mem_cons.1 hx with rfl | hx
    · exact hnr hrx
    · exact hne x hx (hrx.imp id fun q => by rw [← (old x hx).2.1]; exact q) ((fp_agree (old x hx).1 (old x hx).2.2 g).1 hix)
  · rw [show i = g from (fp_one hbo hi).trans (by rw [hbl]; exact e0)]
    exact hmay hw
end
end Go.Proofs.Ytnmfmjlpfhdgeaa
/- Fragments: the program's table in memory; put and done in letters. -/
namespace Go.Proofs.Ytnmfmjlpfhdgeaa
open Go.RowKit Sy
set_option linter.unusedVariables false
set_option linter.unusedSimpArgs false

/-! The map's rows. -/
def ptv (b : Nat) : Value := .pointer (some ⟨b, 0, none⟩)
def mpR (bs : List Nat) (es : List Ent) : Rws := List.zipWith (fun b e => enN e ++ [ptv b]) bs es
theorem mpR_len {bs : List Nat} {es : List Ent} (h : bs.length = es.length) : (mpR bs es).length = es.length := by
  unfold mpR
  rw [List.length_zipWith, h, Nat.min_self]
theorem mpR_fM (k : List Value) : ∀ {bs : List Nat} {es : List Ent}, bs.length = es.length → fM 4 k (mpR bs es) = ixN k es
  | [], [], _ => rfl
  | b :: bs, e :: es, h => by
    show (if sqR ((enN e ++ [ptv b]).take 4) k then some 0 else (fM 4 k (mpR bs es)).map (· + 1)) = if isN k e then some 0 else (ixN k es).map (· + 1)
    rw [mpR_fM k (by simpa using h)]
    rfl
  | [], _ :: _, h => by cases h
  | _ :: _, [], h => by cases h
theorem mpR_erase : ∀ {bs : List Nat} {es : List Ent} (i : Nat), (mpR bs es).eraseIdx i = mpR (bs.eraseIdx i) (es.eraseIdx i)
  | [], es, i => by cases i <;> simp [mpR]
  | b :: bs, [], i => by
    cases i with
    | zero => simp [mpR]
    | succ i => simp [mpR]
  | b :: bs, e :: es, 0 => rfl
  | b :: bs, e :: es, i + 1 => by
    show (enN e ++ [ptv b]) :: (mpR bs es).eraseIdx i = (enN e ++ [ptv b]) :: mpR (bs.eraseIdx i) (es.eraseIdx i)
    rw [mpR_erase i]
theorem mpR_snoc : ∀ {bs : List Nat} {es : List Ent} (b : Nat) (e : Ent), bs.length = es.length → mpR (bs ++ [b]) (es ++ [e]) = mpR bs es ++ [enN e ++ [ptv b]]
  | [], [], b, e, _ => rfl
  | x :: bs, y :: es, b, e, h => by
    show (enN y ++ [ptv x]) :: mpR (bs ++ [b]) (es ++ [e]) = _
    rw [mpR_snoc b e (by simpa using h)]
    rfl
  | [], _ :: _, _, _, h => by cases h
  | _ :: _, [], _, _, h => by cases h
theorem mpR_set : ∀ {bs : List Nat} {es : List Ent} {i : Nat} {e : Ent}, enN e = enN (es.getD i (0, [])) → mpR bs (es.set i e) = mpR bs es
  | [], _, _, _, _ => rfl
  | _ :: _, [], _, _, _ => rfl
  | b :: bs, x :: es, 0, e, h => by
    show (enN e ++ [ptv b]) :: mpR bs es = _
    rw [h]; rfl
  | b :: bs, x :: es, i + 1, e, h => by
    show (enN x ++ [ptv b]) :: mpR bs (es.set i e) = _
    rw [mpR_set (bs := bs) (es := es) (i := i) (e := e) h]; rfl
theorem mpR_get : ∀ {bs : List Nat} {es : List Ent} {i : Nat}, bs.length = es.length → i < es.length → (mpR bs es).getD i [] = enN (es.getD i (0, [])) ++ [ptv (bs.getD i 0)]
  | b :: bs, e :: es, 0, _, _ => rfl
  | b :: bs, e :: es, i + 1, h, hi => mpR_get (bs := bs) (es := es) (by simpa using h) (by simpa using hi)
  | _, [], _, _, hi => by simp at hi
  | [], _ :: _, _, h, _ => by cases h
theorem mpR_del {bs : List Nat} {es : List Ent} (h : bs.length = es.length) {k : List Value} {i : Nat} (hi : ixN k es = some i) : mDel 4 k (mpR bs es) = mpR (bs.eraseIdx i) (es.eraseIdx i) := by
  unfold mDel
  rw [mpR_fM k h, hi]
  exact mpR_erase i
theorem mpR_put {bs : List Nat} {es : List Ent} (h : bs.length = es.length) {e : Ent} (b : Nat) (hi : ixN (enN e) es = none) : mPut 4 (enN e ++ [ptv b]) (mpR bs es) = mpR (bs ++ [b]) (es ++ [e]) := by
  unfold mPut
  rw [show (enN e ++ [ptv b]).take 4 = enN e from rfl, mpR_fM _ h, hi]
  exact (mpR_snoc b e h).symm
/-! The table. -/
structure FrT (w : World) (g m : Nat) (bs : List Nat) (es : List Ent) : Prop where
  obj : Blk w g 53 [.map (some m)]
  map : MapT w m nmLv true .ptr (mpR bs es)
  len : bs.length = es.length
  nd : (g :: m :: bs).Nodup
  blk : ∀ i, i < es.length → Blk w (bs.getD i 0) 60 (whV (es.getD i (0, [])).1 (es.getD i (0, [])).2)
  ok : FOk es
def frF (g m : Nat) (bs : List Nat) : List Nat := g :: m :: bs
theorem nat_getD_mem {bs : List Nat} {i : Nat} (h : i < bs.length) : bs.getD i 0 ∈ bs := by
  rw [List.getD_eq_getElem?_getD, List.getElem?_eq_getElem h]
  exact List.getElem_mem _
theorem nat_mem_getD {bs : List Nat} {b : Nat} (h : b ∈ bs) : ∃ i, i < bs.length ∧ bs.getD i 0 = b := by
  obtain ⟨i, hi, rfl⟩ := List.getElem_of_mem h
  exact ⟨i, hi, by rw [List.getD_eq_getElem?_getD, List.getElem?_eq_getElem hi]; rfl⟩
section
variable {w w' : World} {g m : Nat} {bs : List Nat} {es : List Ent}
theorem MapT.keep' {ks : List Kd} {ag : Bool} {v : Kd} {l : Rws} (h : MapT w m ks ag v l) (hk : w'.heap[m]? = w.heap[m]?) : MapT w' m ks ag v l := by
  obtain ⟨es, clock, h1, h2⟩ := h.obj
  exact ⟨⟨es, clock, hk.trans h1, h2⟩, h.ok⟩
theorem FrT.g_m (h : FrT w g m bs es) : g ≠ m := fun e => by
  have := h.nd
  rw [List.nodup_cons] at this
  exact this.1 (e ▸ List.mem_cons_self ..)
theorem FrT.g_b (h : FrT w g m bs es) : g ∉ bs := fun e => by
  have := h.nd
  rw [List.nodup_cons] at this
  exact this.1 (List.mem_cons_of_mem _ e)
theorem FrT.m_b (h : FrT w g m bs es) : m ∉ bs := fun e => by
  have := h.nd
  rw [List.nodup_cons, List.nodup_cons] at this
  exact this.2.1 e
theorem FrT.b_b (h : FrT w g m bs es) : bs.Nodup := by
  have := h.nd
  rw [List.nodup_cons, List.nodup_cons] at this
  exact this.2.2
theorem FrT.keep (h : FrT w g m bs es) (hk : ∀ i ∈ frF g m bs, w'.heap[i]? = w.heap[i]?) : FrT w' g m bs es :=
  ⟨(hk g (List.mem_cons_self ..)).trans h.obj, MapT.keep' h.map (hk m (List.mem_cons_of_mem _ (List.mem_cons_self ..))), h.len, h.nd, fun i hi => (hk _ (List.mem_cons_of_mem _ (List.mem_cons_of_mem _ (nat_getD_mem (by rw [h.len]; exact hi))))).trans (h.blk i hi), h.ok⟩
theorem FrT.lt (h : FrT w g m bs es) {i : Nat} (hi : i ∈ frF g m bs) : i < w.heap.size := by
  rcases List.mem_cons.1 hi with rfl | hi
  · exact h.obj.lt
  · rcases List.mem_cons.1 hi with rfl | hi
    · obtain ⟨es, clock, h1, _⟩ := h.map.obj
      exact (Array.getElem?_eq_some_iff.1 h1).1
    · obtain ⟨j, hj, rfl⟩ := nat_mem_getD hi
      exact (h.blk j (by rw [← h.len]; exact hj)).lt
end
/-- What a call leaves of a table. -/
def FrGo (w w' : World) (g m : Nat) (bs : List Nat) (es' : List Ent) : Prop := ∃ bs', FrT w' g m bs' es' ∧ Only (fun i => i ∈ frF g m bs) w w' ∧ ∀ i ∈ frF g m bs', i ∈ frF g m bs ∨ w.heap.size ≤ i
/-! What is being put together, in letters from h on. -/
def whCk (h : Nat) : List C := .int .i64 (.iv (h+10)) :: .int .i64 (.iv (h+11)) :: (pkC (h+30) ++ [.bool (.bv (h+12)), .int .i64 (.iv (h+13))])
def whIk (h : Nat) : List Ins := [⟨0, [.int .u8], 4000, .cv (h+1)⟩, ⟨0, [.bool], 4000, .cv (h+2)⟩]
def whBk (n h : Nat) : Bk := ⟨n, 60, whCk h, true, none, .arr (whIk h)⟩
structure WhL (ρ : Env) (h : Nat) (e : Ent) : Prop where
  f : ∀ β, denL ρ β (pkC (h+30)) = fsC e.2
  i10 : ρ.i (h+10) = enOf e.2
  i11 : ρ.i (h+11) = laOf e.2
  b12 : ρ.b (h+12) = (fsOf e.2).isSome
  i13 : ρ.i (h+13) = e.1
  c1 : ρ.c (h+1) = byT e.2
  c2 : ρ.c (h+2) = hsT e.2
theorem WhL.cells {ρ : Env} {h : Nat} {e : Ent} (H : WhL ρ h e) (β : Bn) : layV ρ (denL ρ β (whCk h)) (whIk h) = whV e.1 e.2 := by
  have e1 : ∀ cs, layV ρ cs (whIk h) = (ρ.c (h+1)).flatten ++ ((ρ.c (h+2)).flatten ++ cs) := fun cs => by
    show cs.take 0 ++ ((ρ.c (h+1)).flatten ++ ((cs.drop 0).take 0 ++ ((ρ.c (h+2)).flatten ++ (cs.drop 0).drop 0))) = _
    simp
  rw [e1, H.c1, H.c2]
  have e2 : denL ρ β (whCk h) = .int .i64 (ρ.i (h+10)) :: .int .i64 (ρ.i (h+11)) :: (denL ρ β (pkC (h+30)) ++ [.bool (ρ.b (h+12)), .int .i64 (ρ.i (h+13))]) := by
    show _ :: _ :: denL ρ β (pkC (h+30) ++ [.bool (.bv (h+12)), .int .i64 (.iv (h+13))]) = _
    rw [show denL ρ β (pkC (h+30) ++ [.bool (.bv (h+12)), .int .i64 (.iv (h+13))]) = denL ρ β (pkC (h+30)) ++ [.bool (ρ.b (h+12)), .int .i64 (ρ.i (h+13))] from List.map_append ..]
    rfl
  rw [e2, H.f, H.i10, H.i11, H.b12, H.i13]
  rfl
theorem WhL.bk {ρ : Env} {h n g : Nat} {e : Ent} (H : WhL ρ h e) {w : World} {β : Bn} (hβ : β n = g) : BkOk ρ β w (whBk n h) ↔ Blk w g 60 (whV e.1 e.2) := by
  have hi : insOk ρ (whIk h) := by
    intro x hx
    change x ∈ [_, _] at hx
    simp only [List.mem_cons, List.not_mem_nil, or_false] at hx
    rcases hx with rfl | rfl
    · show (ρ.c (h+1)).length = 4000 ∧ ∀ r ∈ ρ.c (h+1), kAll [.int .u8] r
      rw [H.c1]; exact ⟨rowsF_len _, byT_ok _⟩
    · show (ρ.c (h+2)).length = 4000 ∧ ∀ r ∈ ρ.c (h+2), kAll [.bool] r
      rw [H.c2]; exact ⟨rowsF_len _, hsT_ok _⟩
  show (Blk w (β n) 60 (layV ρ (denL ρ β (whCk h)) (whIk h)) ∧ insOk ρ (whIk h)) ↔ _
  rw [H.cells, hβ]
  exact ⟨fun q => q.1, fun q => ⟨q, hi⟩⟩
/-! put and done. -/
def ptSel (ok : Bool) (s : Sy.St) : List SV → Option Did
  | [.one (.c (.ptv t)), .one (.agg cs), .one (.c (.int .i64 f))] => match findAl t s.hp with
    | .ptr n 0 => match find n s.hp with
      | some b => if sameBk b (whBk n 100) && (sameCs cs (pkC 20) && same f (.mul (.il 8) (.iv 27))) then (if ok then some ⟨[], [], [whBk n 200], [], .one (.c (.bool (.bl true))), [], none⟩ else some ⟨[], [n], [], [], .one (.c (.bool (.bl false))), [], none⟩) else none
      | none => none
    | _ => none
  | _ => none
def dnSel (d : Bool) (s : Sy.St) : List SV → Option Did
  | [.one (.c (.ptv t))] => match findAl t s.hp with
    | .ptr n 0 => match find n s.hp with
      | some b => if sameBk b (whBk n 200) then some ⟨[], [], [], [], .one (.c (.bool (.bl d))), [], none⟩ else none
      | none => none
    | _ => none
  | _ => none
def ptSp (ok : Bool) : Sy.Spec := chgSp 13 (ptSel ok)
def dnSp (d : Bool) : Sy.Spec := chgSp 14 (dnSel d)
theorem ptSp_ok {ρ : Env} {e : Ent} {p : List Value} (hA : WhL ρ 100 e) (hB : e.2.any (fgt p) = false → WhL ρ 200 (e.1, e.2 ++ [p])) (hl : GL e.2) (hp : GRow p) (hpk : ∀ β, denL ρ β (pkC 20) = p) (h27 : ρ.i 27 = pOff p) : (ptSp (!(e.2.any (fgt p)))).Ok Try.prog ρ := by
  refine chgSp_ok fun {s xs d} hs hc hm {β w} hb hne => ?_
  unfold ptSel at hs
  split at hs
  · rename_i t cs f
    split at hs
    · rename_i n hal
      split at hs
      · rename_i b hf
        split at hs
        · rename_i q
          simp only [Bool.and_eq_true] at q
          have q1 := sameBk_eq q.1
          have q2 := sameCs_eq q.2.1
          have q3 := same_eq q.2.2
          subst q1 q2 q3
          have hmem := find_mem hf
          have hblk := (hA.bk (w := w) (β := β) (n := n) rfl).1 (hb _ hmem.1)
          have hptr : SV.den ρ β (.one (.c (.ptv t))) = .pointer (some ⟨β n, 0, none⟩) := by
            have := findAl_ok (ρ := ρ) (β := β) t hb
            rw [hal] at this
            exact this.symm
          have hag : SV.den ρ β (.one (.agg (pkC 20))) = .agg p.toArray := by
            show Value.agg (denL ρ β (pkC 20)).toArray = _
            rw [hpk]
          have hfr : SV.den ρ β (.one (.c (.int .i64 (.mul (.il 8) (.iv 27))))) = .int .i64 (pFrom p) := by
            show Value.int .i64 (8 * ρ.i 27) = _
            rw [h27]; rfl
          have key := put_calls hblk hl hp
          cases hany : e.2.any (fgt p) with
          | true =>
            rw [hany] at hs
            change some _ = some d at hs
            injection hs with hs
            subst hs
            refine ⟨fun y hy => (by cases hy), ?_⟩
            simp only [List.map_cons, List.map_nil, hptr, hag, hfr]
            refine key.mono ?_
            rintro e' w' ⟨v, rfl, rfl, ho, _, _⟩
            refine ⟨β, by rw [hany]; rfl, ho.mono fun i _ hi => .inr (.inl ⟨_, hmem.1, List.mem_cons_self .., .inl rfl, by rw [hi]; exact fp_root β _⟩), fun _ _ => rfl, fun _ h => (by cases h), fun _ h => (by cases h), fun _ h => (by cases h), fun _ h => (by cases h), fun _ h => (by cases h), fun _ h => (by cases h)⟩
          | false =>
            rw [hany] at hs
            change some _ = some d at hs
            injection hs with hs
            subst hs
            refine ⟨fun y hy => (by cases hy), ?_⟩
            simp only [List.map_cons, List.map_nil, hptr, hag, hfr]
            refine key.mono ?_
            rintro e' w' ⟨v, rfl, rfl, ho, hnew, _⟩
            refine ⟨β, by rw [hany]; rfl, ho.mono fun i _ hi => .inl ⟨_, List.mem_cons_self .., hi⟩, fun _ _ => rfl, fun b hb' => ?_, fun _ h => (by cases h), fun _ h => (by cases h), fun _ h => (by cases h), fun _ h => (by cases h), fun _ h => (by cases h)⟩
            rw [List.mem_singleton.1 hb']
            exact ((hB hany).bk (w := w') (β := β) (n := n) rfl).2 (hnew hany)
        · cases hs
      · cases hs
    · cases hs
  · cases hs
theorem dnSp_ok {ρ : Env} {e : Ent} (hB : WhL ρ 200 e) (hl : GL e.2) : (dnSp (dnB e.2)).Ok Try.prog ρ := by
  refine chgSp_ok fun {s xs d} hs hc hm {β w} hb hne => ?_
  unfold dnSel at hs
  split at hs
  · rename_i t
    split at hs
    · rename_i n hal
      split at hs
      · rename_i b hf
        split at hs
        · rename_i q
          have q1 := sameBk_eq q
          subst q1
          injection hs with hs
          subst hs
          have hmem := find_mem hf
          have hblk := (hB.bk (w := w) (β := β) (n := n) rfl).1 (hb _ hmem.1)
          have hptr : SV.den ρ β (.one (.c (.ptv t))) = .pointer (some ⟨β n, 0, none⟩) := by
            have := findAl_ok (ρ := ρ) (β := β) t hb
            rw [hal] at this
            exact this.symm
          refine ⟨fun y hy => (by cases hy), ?_⟩
          simp only [List.map_cons, List.map_nil, hptr]
          refine (done_calls hblk hl).mono ?_
          rintro e' w' ⟨v, rfl, rfl, hbl⟩
          exact ⟨β, rfl, Only.of_below hbl _, fun _ _ => rfl, fun _ h => (by cases h), fun _ h => (by cases h), fun _ h => (by cases h), fun _ h => (by cases h), fun _ h => (by cases h), fun _ h => (by cases h)⟩
        · cases hs
      · cases hs
    · cases hs
  · cases hs
end Go.Proofs.Ytnmfmjlpfhdgeaa
/- Fragments: runs of the program's In. -/
namespace Go.Proofs.Ytnmfmjlpfhdgeaa
open Go.RowKit Sy
set_option linter.unusedVariables false
set_option linter.unusedSimpArgs false

def codA : Code → Code
  | .cond _ a _ => a
  | c => c
def codC : Code → Operand
  | .cond x _ _ => x
  | _ => default
def tbB : Bk := ⟨0, 53, [.map 2], false, none, .no⟩
def mpB (t : Tm) : Bk := ⟨2, 0, [], true, none, .mp nmLv true .ptr t⟩
def inA : List SV := [.one (.c (.ptr 0 0)), .one (.agg (pkC 20))]
def inS (c : Cx) : Sy.St := ⟨[], [tbB, mpB (.cv 1)], c, 50⟩
def hBs : List Bd := [⟨tlen (.cv 1), 0, 8⟩, u32B 20, u32B 21, i64B 22, i64B 23, i64B 24, i64B 27, ⟨.len (.sv 28), 0, 9223372036854775807⟩]
def tBs : List Bd := [⟨tlen (.cv 1), 0, 8⟩, u32B 20, u32B 21, ⟨.iv 22, 0, 255⟩, ⟨.iv 23, 0, 255⟩, ⟨.iv 24, 0, 65535⟩, ⟨.iv 27, 0, 8191⟩, ⟨.len (.sv 28), 0, 1400⟩, ⟨.add (.mul (.il 8) (.iv 27)) (.len (.sv 28)), 0, 4000⟩]
def pc1 : List Tm := [.bv 26, .not (.eq (.len (.sv 28)) (.il 0)), .eq (.md (.len (.sv 28)) (.il 8)) (.il 0)]
def pc2 : List Tm := [.not (.bv 26), .not (.eq (.iv 27) (.il 0))]
def inP : List Nat := [1, 1, 1, 1]
def inR0 (P : Program) (fn : Func) (c : Cx) : Rs := run P [] 10 400 50 (.code (pre inP (bodyOf fn))) (enterS fn inA (inS c))
def inT (P : Program) (fn : Func) : Sy.St := tplK (lfAt (inR0 P fn ⟨tBs, pc1⟩) 0) [0, 3, 4, 5, 6, 7, 9] [] [] ⟨tBs, []⟩ 80
def inC (fn : Func) : Code := Sy.sub inP (bodyOf fn)
def zC : List C := [.int .u32 (.il 0), .int .u32 (.il 0), .int .i64 (.il 0), .int .i64 (.il 0), .int .i64 (.il 0), .bool (.bl false), .bool (.bl false), .int .i64 (.il 0), .str (.sl [])]
def vIn (cs : List C) (b : Bool) (e : Int) : SV := .tup [.agg cs, .c (.bool (.bl b)), .c (.int .i64 (.il e))]
def kB : Bk := ⟨70, 55, [.int .u32 (.iv 20), .int .u32 (.iv 21), .int .i64 (.iv 22), .int .i64 (.iv 24)], true, none, .no⟩
def rB (cs : List C) : Bk := ⟨52, 35, cs, true, none, .no⟩
def pB : Bk := ⟨50, 35, pkC 20, true, none, .no⟩
def keyT : Tm := .tb (.cons (.int .u32)) (.iv 20) (.tb (.cons (.int .u32)) (.iv 21) (.tb (.cons (.int .i64)) (.iv 22) (.tb (.cons (.int .i64)) (.iv 24) (.tb .row (.il 0) (.il 0) (.il 0)) (.il 0)) (.il 0)) (.il 0)) (.il 0)
def ixT : Tm := .tb (.mix 4) (.cv 1) keyT (.il 0)
def ptrT : Tm := .tb (.get .ptr 4) (.cv 1) ixT (.il 0)
def delT : Tm := .tb (.mdel 4) (.cv 1) keyT (.il 0)
def putT : Tm := .tb (.mput 4) (.cv 1) (.tb (.cons (.int .u32)) (.iv 20) (.tb (.cons (.int .u32)) (.iv 21) (.tb (.cons (.int .i64)) (.iv 22) (.tb (.cons (.int .i64)) (.iv 24) (.tb (.cons .ptr) (.iv 300) (.tb .row (.il 0) (.il 0) (.il 0)) (.il 0)) (.il 0)) (.il 0)) (.il 0)) (.il 0)) (.il 0)
set_option maxRecDepth 100000 in
theorem in_run1 : shR 50 none (inR0 Try.prog Try.f8 ⟨tBs, pc1⟩) = some [.out 0 .normal pc1] := by kernel_rfl
set_option maxRecDepth 100000 in
theorem in_run2 : shR 50 none (inR0 Try.prog Try.f8 ⟨tBs, pc2⟩) = some [.out 0 .normal pc2] := by kernel_rfl
set_option maxRecDepth 100000 in
theorem in_m1 : (matchS 50 (inT Try.prog Try.f8) (lfAt (inR0 Try.prog Try.f8 ⟨tBs, pc1⟩) 0)).map noU = some [] := by kernel_rfl
set_option maxRecDepth 100000 in
theorem in_m2 : (matchS 50 (inT Try.prog Try.f8) (lfAt (inR0 Try.prog Try.f8 ⟨tBs, pc2⟩) 0)).map noU = some [] := by kernel_rfl
set_option maxRecDepth 100000 in
theorem in_hp : (inT Try.prog Try.f8).hp = [kB, rB zC, pB, tbB, mpB (.cv 1)] := by kernel_rfl
theorem in_cx : (inT Try.prog Try.f8).cx = ⟨tBs, []⟩ := by kernel_rfl
/-! It is there. -/
def alB (n : Nat) (t : Tm) : Bk := ⟨n + 2, 0, [.ptr n 0], false, none, .al t⟩
def cxA : Cx := ⟨⟨ixT, 0, 7⟩ :: tBs, []⟩
def cxA3 : Cx := ⟨⟨ixT, 0, 7⟩ :: ⟨.iv 210, 0, 4000⟩ :: tBs, []⟩
def inSA (P : Program) (fn : Func) (c : Cx) : Sy.St := { St.focusB (inT P fn) 80 (whBk 80 100) ptrT with cx := c, nx := 90 }
set_option maxRecDepth 100000 in
theorem in_fr : ((inT Try.prog Try.f8).free 80, (inT Try.prog Try.f8).free 81, (inT Try.prog Try.f8).free 82, (inT Try.prog Try.f8).free 83) = (true, true, true, true) := by kernel_rfl
set_option maxRecDepth 100000 in
theorem in_A1 : smR Try.prog Try.f8 90 (run Try.prog [ptSp false, dnSp false] 10 400 90 (.code (inC Try.f8)) (inSA Try.prog Try.f8 cxA)) = some [.ret (vIn zC false 4) [alB 80 ptrT, kB, rB zC, pB, tbB, mpB delT] []] := by kernel_rfl
set_option maxRecDepth 100000 in
theorem in_A2 : smR Try.prog Try.f8 90 (run Try.prog [ptSp true, dnSp false] 10 400 90 (.code (inC Try.f8)) (inSA Try.prog Try.f8 cxA)) = some [.ret (vIn zC false 0) [whBk 80 200, alB 80 ptrT, kB, rB zC, pB, tbB, mpB (.cv 1)] []] := by kernel_rfl
def ouC : List C := [.int .u32 (.iv 230), .int .u32 (.iv 231), .int .i64 (.iv 232), .int .i64 (.iv 233), .int .i64 (.iv 234), .bool (.bv 235), .bool (.bl false), .int .i64 (.il 0), .str (.tb .str (.tb .cut (.cv 201) (.il 0) (.iv 210)) (.il 0) (.il 0))]
set_option maxRecDepth 100000 in
theorem in_A3 : smR Try.prog Try.f8 90 (run Try.prog [ptSp true, dnSp true] 10 400 90 (.code (inC Try.f8)) (inSA Try.prog Try.f8 cxA3)) = some [.ret (vIn ouC true 0) [whBk 80 200, alB 80 ptrT, kB, rB ouC, pB, tbB, mpB delT] []] := by kernel_rfl
/-! It is not there. -/
def cxB1 : Cx := ⟨⟨ixT, -1, -1⟩ :: ⟨tlen (.cv 1), 8, 8⟩ :: tBs, []⟩
def cxB2 : Cx := ⟨⟨ixT, -1, -1⟩ :: ⟨tlen (.cv 1), 0, 7⟩ :: tBs, []⟩
def inSB (P : Program) (fn : Func) (c : Cx) : Sy.St := { inT P fn with cx := c }
set_option maxRecDepth 100000 in
theorem in_B : smR Try.prog Try.f8 80 (run Try.prog [] 10 400 80 (.code (inC Try.f8)) (inSB Try.prog Try.f8 cxB1)) = some [.ret (vIn zC false 9) [kB, rB zC, pB, tbB, mpB (.cv 1)] []] := by kernel_rfl
def inX (fn : Func) : Code := codA (Sy.sub [1, 0, 1] (inC fn))
def inB1 (P : Program) (fn : Func) : Rs := run P [] 10 400 80 (.code (pre [1, 0, 1] (inC fn))) (inSB P fn cxB2)
def inB2 (P : Program) (fn : Func) : Rs := run P [] 10 400 80 (.code (pre [1, 1] (inX fn))) (lfAt (inB1 P fn) 0)
def inT3 (P : Program) (fn : Func) : Sy.St := tplK (lfAt (inB2 P fn) 0) [0, 3, 4, 5, 6, 7, 9, 10] [] [] cxB2 120
set_option maxRecDepth 100000 in
theorem in_B1 : shR 80 none (inB1 Try.prog Try.f8) = some [.out 0 .normal []] := by kernel_rfl
set_option maxRecDepth 100000 in
theorem in_cond : ∃ x a b, Sy.sub [1, 0, 1] (inC Try.f8) = .cond x a b ∧ a = inX Try.f8 ∧ opd (lfAt (inB1 Try.prog Try.f8) 0).tm x = some (.one (.c (.bool (.bl true)))) := ⟨codC (Sy.sub [1, 0, 1] (inC Try.f8)), inX Try.f8, .skip, by kernel_rfl, rfl, by kernel_rfl⟩
set_option maxRecDepth 100000 in
theorem in_B2 : shR 80 none (inB2 Try.prog Try.f8) = some [.out 0 .normal []] := by kernel_rfl
set_option maxRecDepth 100000 in
theorem in_m3 : (matchS 80 (inT3 Try.prog Try.f8) (lfAt (inB2 Try.prog Try.f8) 0)).map noU = some [] := by kernel_rfl
def bigC : List C := List.replicate 4000 (.int .u8 (.il 0)) ++ (List.replicate 4000 (.bool (.bl false)) ++ (.int .i64 (.il (-1)) :: .int .i64 (.il 0) :: (zC ++ [.bool (.bl false), .int .i64 (.il 0)])))
def bigB : Bk := ⟨94, 60, bigC, true, none, .no⟩
set_option maxRecDepth 100000 in
theorem in_hp3 : sameH (inT3 Try.prog Try.f8).hp [bigB, kB, rB zC, pB, tbB, mpB (.cv 1)] = true := by kernel_rfl
set_option maxRecDepth 100000 in
theorem in_tm3 : (inT3 Try.prog Try.f8).tm.getD 10 undS = .one (.c (.ptr 94 0)) := by kernel_rfl
def hp4 : List Bk := [whBk 94 100, kB, rB zC, pB, tbB, mpB (.cv 1)]
def inT3a (P : Program) (fn : Func) : Sy.St := ⟨(inT3 P fn).tm, hp4, cxB2, 130⟩
def inT3b (P : Program) (fn : Func) : Sy.St := ⟨(inT3 P fn).tm.set 10 (.one (.c (.ptv (.iv 300)))), hp4, cxB2, 130⟩
set_option maxRecDepth 100000 in
theorem in_low3 : (lowSt 300 (inT3a Try.prog Try.f8), (inT3b Try.prog Try.f8).free 122, (inT3b Try.prog Try.f8).free 123) = (true, true, true) := by kernel_rfl
def inT4 (P : Program) (fn : Func) : Sy.St := ⟨(inT3 P fn).tm.set 10 (.one (.c (.ptv (.iv 300)))), [⟨122, 0, [.ptr 94 0], false, none, .al (.iv 300)⟩, whBk 94 100, kB, rB zC, pB, tbB, mpB (.cv 1)], cxB2, 130⟩
def inB3 (P : Program) (fn : Func) : Rs := run P [] 10 400 124 (.code (Sy.sub [1, 1] (inX fn))) (inT4 P fn)
set_option maxRecDepth 100000 in
theorem in_B3 : shR 124 none (inB3 Try.prog Try.f8) = some [.out 0 .normal []] := by kernel_rfl
set_option maxRecDepth 100000 in
theorem in_B4 : smR Try.prog Try.f8 124 (run Try.prog [ptSp true, dnSp false] 10 400 124 (.code (Sy.sub [1, 1] (inC Try.f8))) (lfAt (inB3 Try.prog Try.f8) 0)) = some [.ret (vIn zC false 0) [⟨122, 0, [.ptr 94 0], false, none, .al (.iv 300)⟩, whBk 94 200, kB, rB zC, pB, tbB, mpB putT] []] := by kernel_rfl
end Go.Proofs.Ytnmfmjlpfhdgeaa
