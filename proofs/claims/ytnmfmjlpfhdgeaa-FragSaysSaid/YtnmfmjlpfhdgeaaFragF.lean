/- Fragments: the document's table in memory; its greedy way, plainly. -/
import Derived.Test.YtnmfmjlpfhdgeaaFragE
namespace Go.Proofs.Ytnmfmjlpfhdgeaa
open Go.RowKit Sy
set_option linter.unusedVariables false
set_option linter.unusedSimpArgs false

/-! The bytes that are there, one after the other. -/
def boN (l : Rws) (n : Nat) : ByteArray := strT ((byT l).take n)
theorem boN_data (l : Rws) {n : Nat} (hn : n ≤ 4000) : (boN l n).data.toList = (List.range n).map fun (j : Nat) => UInt8.ofNat (byAt l (j : Int)).toNat := by
  unfold boN strT byT rowsF
  rw [← List.map_take, List.take_range, Nat.min_eq_left hn, List.map_map]
  rfl
theorem boN_size (l : Rws) {n : Nat} (hn : n ≤ 4000) : (boN l n).size = n := by
  show (boN l n).data.size = n
  rw [← Array.length_toList, boN_data l hn, List.length_map, List.length_range]
theorem boS_N (l : Rws) : boS l = boN l (enOf l).toNat := rfl
theorem bo_step {l : Rws} (h : GL l) {q : List Value} (hq : q ∈ l) {n : Nat} (h0 : pFrom q ≤ n) (h1 : (n : Int) < pTo q) : boN l n ++ (pBody q).extract ((n : Int) - pFrom q).toNat (pBody q).size = boN l (pTo q).toNat := by
  have hr := h.row q hq
  have f0 := hr.f0
  have t1 := hr.t1
  have et : pTo q = pFrom q + ((pBody q).size : Int) := rfl
  have hn : n ≤ 4000 := by omega
  have hn' : (pTo q).toNat ≤ 4000 := by omega
  obtain ⟨m, hm⟩ : ∃ m, (pTo q).toNat = n + m := ⟨(pTo q).toNat - n, by omega⟩
  refine ByteArray.ext (Array.ext' ?_)
  rw [ByteArray.data_append, Array.toList_append, boN_data l hn, boN_data l hn', hm, List.range_add, List.map_append, List.map_map]
  congr 1
  rw [ByteArray.data_extract, Array.toList_extract, List.extract_eq_take_drop]
  have hsz : (pBody q).data.toList.length = (pBody q).size := rfl
  apply List.ext_getElem
  · rw [List.length_take, List.length_drop, List.length_map, List.length_range, hsz]
    omega
  · intro j j1 j2
    rw [List.length_map, List.length_range] at j2
    rw [List.getElem_take, List.getElem_drop, List.getElem_map, List.getElem_range]
    show _ = UInt8.ofNat (byAt l ((n + j : Nat) : Int)).toNat
    rw [h.by hq (cov_iff.2 ⟨by omega, by omega⟩)]
    unfold pByte Sy.byteOf
    rw [Int.toNat_natCast, UInt8.ofNat_toNat, List.getD_eq_getElem?_getD, List.getElem?_eq_getElem (by rw [hsz]; omega)]
    show _ = _
    simp only [Option.getD_some]
    congr 1
    omega
/-! How far one has come. -/
structure Gdy (l : Rws) (n : Nat) (cs : List Value) (s : ByteArray) : Prop where
  le : n ≤ 4000
  s : s = boN l n
  cv : ∀ j : Nat, j < n → hsAt l (j : Int) = true
  out : 0 < n → cs = fsC l
theorem Gdy.size {l : Rws} {n : Nat} {cs : List Value} {s : ByteArray} (G : Gdy l n cs s) : s.size = n := by rw [G.s]; exact boN_size l G.le
theorem Gdy.nil (l : Rws) (cs : List Value) : Gdy l 0 cs none8 := ⟨by decide, by
  unfold boN
  rw [List.take_zero]
  rfl, fun j h => absurd h (Nat.not_lt_zero j), fun h => absurd h (Nat.lt_irrefl 0)⟩
/-- A fragment that goes on where one is. -/
theorem Gdy.step {l : Rws} (h : GL l) {n : Nat} {cs cs' : List Value} {s : ByteArray} (G : Gdy l n cs s) {q : List Value} (hq : q ∈ l) (h0 : pFrom q ≤ n) (h1 : (n : Int) < pTo q) (hc : cs' = fsC l) :
    Gdy l (pTo q).toNat cs' (s ++ (pBody q).extract ((n : Int) - pFrom q).toNat (pBody q).size) := by
  have hr := h.row q hq
  have t1 := hr.t1
  refine ⟨by omega, ?_, fun j hj => ?_, fun _ => hc⟩
  · rw [G.s]; exact bo_step h hq h0 h1
  · by_cases e : j < n
    · exact G.cv j e
    · exact hs_iff.2 ⟨q, hq, cov_iff.2 ⟨by omega, by omega⟩⟩
/-- One cannot come beyond the end. -/
theorem Gdy.en {l : Rws} (h : GL l) {n : Nat} {cs : List Value} {s : ByteArray} (G : Gdy l n cs s) (h0 : 0 ≤ enOf l) : (n : Int) ≤ enOf l := by
  by_cases e : n = 0
  · omega
  · obtain ⟨q, hq, hc⟩ := hs_iff.1 (G.cv (n - 1) (by omega))
    have := (cov_iff.1 hc).2
    have := la_ge hq
    have := h.la_en h0
    omega
theorem Gdy.done {l : Rws} (h : GL l) {n : Nat} {cs : List Value} {s : ByteArray} (G : Gdy l n cs s) (h0 : 0 ≤ enOf l) (h1 : enOf l ≤ n) : dnB l = true ∧ s = boS l ∧ cs = fsC l := by
  have e := G.en h h0
  have hd : dnB l = true := by
    unfold dnB
    rw [Bool.and_eq_true, decide_eq_true_eq, List.all_eq_true]
    refine ⟨h0, fun j hj => G.cv j ?_⟩
    have := List.mem_range.1 hj
    omega
  have hp : 0 < enOf l := (dn_known h h0 fun j hj => G.cv j (by omega)).2
  refine ⟨hd, ?_, G.out (by omega)⟩
  rw [G.s, boS_N]
  congr 1
  omega
theorem dn_no {l : Rws} {n : Nat} (h : (n : Int) < enOf l) (hn : hsAt l (n : Int) = false) : dnB l = false := by
  cases e : dnB l with
  | false => rfl
  | true =>
    unfold dnB at e
    rw [Bool.and_eq_true, List.all_eq_true] at e
    have := e.2 n (List.mem_range.2 (by omega))
    rw [hn] at this
    cases this
theorem dn_neg {l : Rws} (h : enOf l < 0) : dnB l = false := by
  unfold dnB
  rw [decide_eq_false (by omega)]
  rfl
/-! The end of the fragments that one has looked at. -/
theorem en_take {l : Rws} (h : GL l) {i : Nat} (hi : i < l.length) : enOf (l.take (i + 1)) = if pMore (l.getD i []) = false then pTo (l.getD i []) else enOf (l.take i) := by
  have hg : l.getD i [] = l[i] := by rw [List.getD_eq_getElem?_getD, List.getElem?_eq_getElem hi]; rfl
  rw [hg, List.take_succ_eq_append_getElem hi]
  have hG : GL (l.take i ++ [l[i]]) := by
    rw [← List.take_succ_eq_append_getElem hi]
    exact ⟨fun q hq => h.row q (List.mem_of_mem_take hq), fun p hp q hq => h.ft p (List.mem_of_mem_take hp) q (List.mem_of_mem_take hq)⟩
  cases hm : pMore l[i] with
  | false =>
    rw [if_pos rfl]
    exact hG.en (q := l[i]) (List.mem_append_right _ (List.mem_cons_self ..)) hm
  | true =>
    rw [if_neg (by decide)]
    unfold enOf
    rw [List.find?_append]
    have : List.find? (fun q => !(pMore q)) [l[i]] = none := by simp [hm]
    rw [this, Option.or_none]
/-! The table. -/
def rLv : List Kd := [.sls, .int .i64]
def rfR (ls : List (Nat × Nat)) (es : List Ent) : Rws := List.zipWith (fun x e => [sltV x.1 x.2 e.2.length, .int .i64 e.1]) ls es
theorem rfR_len {ls : List (Nat × Nat)} {es : List Ent} (h : ls.length = es.length) : (rfR ls es).length = es.length := by
  unfold rfR
  rw [List.length_zipWith, h, Nat.min_self]
theorem rfR_get : ∀ {ls : List (Nat × Nat)} {es : List Ent} {i : Nat}, ls.length = es.length → i < es.length → (rfR ls es).getD i [] = [sltV (ls.getD i (0, 0)).1 (ls.getD i (0, 0)).2 (es.getD i (0, [])).2.length, .int .i64 (es.getD i (0, [])).1]
  | x :: ls, e :: es, 0, _, _ => rfl
  | x :: ls, e :: es, i + 1, h, hi => rfR_get (ls := ls) (es := es) (by simpa using h) (by simpa using hi)
  | _, [], _, _, hi => by simp at hi
  | [], _ :: _, _, h, _ => by cases h
theorem rfR_erase : ∀ {ls : List (Nat × Nat)} {es : List Ent} (i : Nat), (rfR ls es).eraseIdx i = rfR (ls.eraseIdx i) (es.eraseIdx i)
  | [], es, i => by cases i <;> simp [rfR]
  | x :: ls, [], i => by
    cases i with
    | zero => simp [rfR]
    | succ i => simp [rfR]
  | x :: ls, e :: es, 0 => rfl
  | x :: ls, e :: es, i + 1 => by
    show [sltV x.1 x.2 e.2.length, .int .i64 e.1] :: (rfR ls es).eraseIdx i = [sltV x.1 x.2 e.2.length, .int .i64 e.1] :: rfR (ls.eraseIdx i) (es.eraseIdx i)
    rw [rfR_erase i]
theorem rfR_snoc : ∀ {ls : List (Nat × Nat)} {es : List Ent} (x : Nat × Nat) (e : Ent), ls.length = es.length → rfR (ls ++ [x]) (es ++ [e]) = rfR ls es ++ [[sltV x.1 x.2 e.2.length, .int .i64 e.1]]
  | [], [], x, e, _ => rfl
  | y :: ls, z :: es, x, e, h => by
    show [sltV y.1 y.2 z.2.length, .int .i64 z.1] :: rfR (ls ++ [x]) (es ++ [e]) = _
    rw [rfR_snoc x e (by simpa using h)]
    rfl
  | [], _ :: _, _, _, h => by cases h
  | _ :: _, [], _, _, h => by cases h
theorem rfR_set : ∀ {ls : List (Nat × Nat)} {es : List Ent} {i : Nat} {x : Nat × Nat} {e : Ent}, ls.length = es.length → (rfR ls es).set i [sltV x.1 x.2 e.2.length, .int .i64 e.1] = rfR (ls.set i x) (es.set i e)
  | [], [], i, x, e, _ => by cases i <;> rfl
  | y :: ls, z :: es, 0, x, e, _ => rfl
  | y :: ls, z :: es, i + 1, x, e, h => by
    show [sltV y.1 y.2 z.2.length, .int .i64 z.1] :: (rfR ls es).set i _ = [sltV y.1 y.2 z.2.length, .int .i64 z.1] :: rfR (ls.set i x) (es.set i e)
    rw [rfR_set (ls := ls) (es := es) (i := i) (x := x) (e := e) (by simpa using h)]
  | [], _ :: _, _, _, _, h => by cases h
  | _ :: _, [], _, _, _, h => by cases h
structure RfM (w : World) (u a c : Nat) (ls : List (Nat × Nat)) (es : List Ent) : Prop where
  obj : Blk w u 28 [sltV a c es.length]
  tab : RowT w a c 64 rLv (rfR ls es)
  len : ls.length = es.length
  row : ∀ i, i < es.length → RowT w (ls.getD i (0, 0)).1 (ls.getD i (0, 0)).2 35 pkLv (es.getD i (0, [])).2
def rfF (u a c : Nat) (ls : List (Nat × Nat)) : List Nat := u :: ((if c = 0 then [] else [a]) ++ (ls.filter fun x => !(Nat.beq x.2 0)).map fun x => x.1)
theorem rfF_u (u a c : Nat) (ls : List (Nat × Nat)) : u ∈ rfF u a c ls := List.mem_cons_self ..
theorem rfF_a {u a c : Nat} {ls : List (Nat × Nat)} (h : c ≠ 0) : a ∈ rfF u a c ls := by
  unfold rfF
  rw [if_neg h]
  exact List.mem_cons_of_mem _ (List.mem_cons_self ..)
theorem rfF_l {u a c : Nat} {ls : List (Nat × Nat)} {x : Nat × Nat} (h : x ∈ ls) (h0 : x.2 ≠ 0) : x.1 ∈ rfF u a c ls := by
  unfold rfF
  refine List.mem_cons_of_mem _ (List.mem_append_right _ (List.mem_map.2 ⟨x, List.mem_filter.2 ⟨h, ?_⟩, rfl⟩))
  cases e : Nat.beq x.2 0 with
  | false => rfl
  | true => exact absurd (Nat.eq_of_beq_eq_true e) h0
theorem rfF_mem {u a c : Nat} {ls : List (Nat × Nat)} {i : Nat} (h : i ∈ rfF u a c ls) : i = u ∨ (c ≠ 0 ∧ i = a) ∨ ∃ x ∈ ls, x.2 ≠ 0 ∧ i = x.1 := by
  unfold rfF at h
  rcases List.mem_cons.1 h with h | h
  · exact .inl h
  · rcases List.mem_append.1 h with h | h
    · split at h
      · cases h
      · rename_i q
        exact .inr (.inl ⟨q, List.mem_singleton.1 h⟩)
    · obtain ⟨x, hx, rfl⟩ := List.mem_map.1 h
      obtain ⟨h1, h2⟩ := List.mem_filter.1 hx
      refine .inr (.inr ⟨x, h1, fun e => ?_, rfl⟩)
      rw [e] at h2
      cases h2
theorem rowT_same {w w' : World} {g c : Nat} {ty : TypeId} {lv : List Kd} {l : Rws} (h : RowT w g c ty lv l) (hk : c ≠ 0 → w'.heap[g]? = w.heap[g]?) : RowT w' g c ty lv l := ⟨fun hc => by rw [hk hc]; exact h.row hc, h.len, h.ok⟩
theorem rowT_lt {w : World} {g c : Nat} {ty : TypeId} {lv : List Kd} {l : Rws} (h : RowT w g c ty lv l) (hc : c ≠ 0) : g < w.heap.size := by
  obtain ⟨cur, h1, _⟩ := h.row hc
  exact (Array.getElem?_eq_some_iff.1 h1).1
theorem pr_getD_mem {ls : List (Nat × Nat)} {i : Nat} (h : i < ls.length) : ls.getD i (0, 0) ∈ ls := by
  rw [List.getD_eq_getElem?_getD, List.getElem?_eq_getElem h]
  exact List.getElem_mem _
theorem pr_mem_getD {ls : List (Nat × Nat)} {b : Nat × Nat} (h : b ∈ ls) : ∃ i, i < ls.length ∧ ls.getD i (0, 0) = b := by
  obtain ⟨i, hi, rfl⟩ := List.getElem_of_mem h
  exact ⟨i, hi, by rw [List.getD_eq_getElem?_getD, List.getElem?_eq_getElem hi]; rfl⟩
/-- Two blocks of different types are two. -/
theorem ty_ne {w : World} {g g' : Nat} {ty ty' : TypeId} {cur cur' : Array Value} {q q' : Nat × Nat} (h : w.heap[g]? = some (.cells cur ty q)) (h' : w.heap[g']? = some (.cells cur' ty' q')) (hn : ty ≠ ty') : g ≠ g' := fun e => by
  subst e
  rw [h] at h'
  injection h' with h'
  injection h' with _ h' _
  exact hn h'
section
variable {w w' : World} {u a c : Nat} {ls : List (Nat × Nat)} {es : List Ent}
theorem RfM.u_a (h : RfM w u a c ls es) (hc : c ≠ 0) : u ≠ a := by
  obtain ⟨cur, h1, _⟩ := h.tab.row hc
  exact ty_ne h.obj h1 (by decide)
theorem RfM.l_ne (h : RfM w u a c ls es) {i : Nat} (hi : i < es.length) (h0 : (ls.getD i (0, 0)).2 ≠ 0) : (ls.getD i (0, 0)).1 ≠ u ∧ (c ≠ 0 → (ls.getD i (0, 0)).1 ≠ a) := by
  obtain ⟨cur, h1, _⟩ := (h.row i hi).row h0
  refine ⟨ty_ne h1 h.obj (by decide), fun hc => ?_⟩
  obtain ⟨cur', h2, _⟩ := h.tab.row hc
  exact ty_ne h1 h2 (by decide)
theorem RfM.keep (h : RfM w u a c ls es) (hk : ∀ i ∈ rfF u a c ls, w'.heap[i]? = w.heap[i]?) : RfM w' u a c ls es :=
  ⟨(hk u (rfF_u ..)).trans h.obj, rowT_same h.tab fun hc => hk a (rfF_a hc), h.len, fun i hi => rowT_same (h.row i hi) fun h0 => hk _ (rfF_l (pr_getD_mem (by rw [h.len]; exact hi)) h0)⟩
theorem RfM.lt (h : RfM w u a c ls es) {i : Nat} (hi : i ∈ rfF u a c ls) : i < w.heap.size := by
  rcases rfF_mem hi with rfl | ⟨hc, rfl⟩ | ⟨x, hx, h0, rfl⟩
  · exact h.obj.lt
  · exact rowT_lt h.tab hc
  · obtain ⟨j, hj, rfl⟩ := pr_mem_getD hx
    exact rowT_lt (h.row j (by rw [← h.len]; exact hj)) h0
end
/-- What a call leaves of a table. -/
def RfGo (w w' : World) (u a c : Nat) (ls : List (Nat × Nat)) (es' : List Ent) : Prop := ∃ a' c' ls', RfM w' u a' c' ls' es' ∧ Only (fun i => i ∈ rfF u a c ls) w w' ∧ ∀ i ∈ rfF u a' c' ls', i ∈ rfF u a c ls ∨ w.heap.size ≤ i
end Go.Proofs.Ytnmfmjlpfhdgeaa
/- Fragments: the document's In: runs. -/
namespace Go.Proofs.Ytnmfmjlpfhdgeaa
open Go.RowKit Sy
set_option linter.unusedVariables false
set_option linter.unusedSimpArgs false

def uB (l : Nat) (n : Tm) : Bk := ⟨0, 28, [.slt l 2 (.il 0) n (.il 0)], true, none, .no⟩
def loB (l : Nat) (t : Tm) : Bk := ⟨l, 64, [], true, none, .tab rLv t⟩
def rfA : List SV := [.one (.c (.ptr 0 0)), .one (.agg (pkC 20))]
def rfS (c : Cx) : Sy.St := ⟨[], [uB 2 (tlen (.cv 0)), loB 2 (.cv 0)], c, 46⟩
def rhBs : List Bd := ⟨tlen (.cv 0), 0, 8⟩ :: hBs.drop 1
def rtBs : List Bd := tBs.drop 1
def rBs : List Bd := ⟨tlen (.cv 0), 0, 8⟩ :: rtBs
def rc1 : List Tm := [.bv 26, .not (.eq (.len (.sv 28)) (.il 0)), .not (.lt (.il 0) (.md (.len (.sv 28)) (.il 8)))]
def P1 : List Nat := [1, 1, 1, 1, 1, 1, 0, 2]
def rR0 (P : Program) (fn : Func) (c : Cx) : Rs := run P [] 10 400 46 (.code (pre P1 (bodyOf fn))) (enterS fn rfA (rfS c))
/-! Templates. -/
def tmL (n : Nat) (vs : List (Nat × SV)) : List SV := (List.range n).map fun k => match vs.find? fun q => Nat.beq q.1 k with | some q => q.2 | none => .any k
def vi (t : Tm) : SV := .one (.c (.int .i64 t))
def vp (n : Nat) : SV := .one (.c (.ptr n 0))
def vs0 : List (Nat × SV) := [(0, vp 0), (2, vp 46), (3, vp 48), (4, vp 50), (5, .one (.c (.bool (.bl false)))), (6, vi (.il 0)), (8, vp 54)]
def bx4 : List Bk := [⟨54, 3, [.int .i64 (.iv 40)], true, none, .no⟩, ⟨50, 35, zC, true, none, .no⟩, ⟨48, 35, pkC 20, true, none, .no⟩, ⟨46, 25, [.ptr 0 0], true, none, .no⟩]
/-! The scan. -/
def rT1 : Sy.St := ⟨tmL 228 vs0, bx4 ++ [uB 2 (tlen (.cv 0)), loB 2 (.cv 0)], ⟨⟨.iv 40, 0, 8⟩ :: rBs, [.le (.iv 40) (tlen (.cv 0))]⟩, 80⟩
def rC1 (fn : Func) : Code := lpBody (Sy.sub P1 (bodyOf fn))
def lkT : Tm := .ap 60 (.il 0) (.iv 40) (.il 0)
def lkS : Tm := .tb (.get .sls 0) (.cv 0) (.iv 40) (.il 0)
def cx1F : Cx := ⟨⟨.iv 40, 0, 7⟩ :: ⟨tlen lkT, 1, 1099511627776⟩ :: rBs, [.lt (.iv 40) (tlen (.cv 0))]⟩
def cx1E : Cx := ⟨⟨.iv 40, 0, 8⟩ :: rBs, [.eq (.iv 40) (tlen (.cv 0)), .le (.iv 40) (tlen (.cv 0)), .not (.lt (.iv 40) (tlen (.cv 0)))]⟩
def rS1F : Sy.St := { St.focusT rT1 90 35 pkLv false lkT lkS with cx := cx1F, nx := 100 }
def rR1F (P : Program) (fn : Func) : Rs := run P [] 10 400 94 (.code (rC1 fn)) rS1F
def rR1E (P : Program) (fn : Func) : Rs := run P [] 10 400 46 (.code (rC1 fn)) { rT1 with cx := cx1E }
def nmE (f : Nat) (k : IntKind) (i : Nat) : Tm := .eq (.tb (.get (.int k) f) lkT (.il 0) (.il 0)) (.iv i)
/-! Is there room? -/
def rC7 (fn : Func) : Code := Sy.sub [1, 1, 1, 1, 1, 1, 1, 0] (bodyOf fn)
def rC8 (fn : Func) : Code := Sy.sub [1, 1, 1, 1, 1, 1, 1, 1] (bodyOf fn)
def cx7A : Cx := ⟨⟨.iv 40, 0, 7⟩ :: rBs, [.not (.eq (.iv 40) (tlen (.cv 0)))]⟩
def cx7B : Cx := ⟨⟨.iv 40, 0, 7⟩ :: ⟨tlen (.cv 0), 0, 7⟩ :: rtBs, [.eq (.iv 40) (tlen (.cv 0))]⟩
def cx7C : Cx := ⟨⟨.iv 40, 8, 8⟩ :: ⟨tlen (.cv 0), 8, 8⟩ :: rtBs, []⟩
def rR7 (P : Program) (fn : Func) (c : Cx) : Rs := run P [] 10 400 46 (.code (rC7 fn)) { rT1 with cx := c }
def cx8 : Cx := ⟨⟨.iv 40, 0, 7⟩ :: ⟨tlen (.cv 0), 1, 8⟩ :: rtBs, [.lt (.iv 40) (tlen (.cv 0))]⟩
def rT8 (n : Tm) : Sy.St := ⟨tmL 228 vs0, bx4 ++ [uB 108 n, loB 108 (.cv 0)], cx8, 120⟩
/-! Do two fight? -/
def cutA : Tm := .tb .cut (.cv 0) (.add (.iv 40) (.il 1)) (.add (.add (.iv 40) (.sub (tlen (.cv 0)) (.add (.iv 40) (.il 1)))) (.il 1))
def pcD : List Tm := [.le (.mul (.add (.iv 40) (tlen cutA)) (.il 32)) (.il 140737488355328), .le (.add (.add (.iv 40) (.sub (tlen (.cv 0)) (.add (.iv 40) (.il 1)))) (.il 1)) (tlen (.cv 0)), .le (.add (.iv 40) (.il 1)) (tlen (.cv 0)), .le (.iv 40) (tlen (.cv 0)), .lt (.iv 40) (tlen (.cv 0))]
def bsD : List Bd := [⟨.sub (tlen (.cv 0)) (.add (.iv 40) (.il 1)), 0, 8⟩]
def bs9 : List Bd := ⟨.iv 40, 0, 7⟩ :: ⟨tlen (.cv 3), 0, 1099511627776⟩ :: ⟨tlen (.cv 0), 1, 8⟩ :: rtBs
def rS9 : Sy.St := { St.focusT (rT8 (tlen (.cv 0))) 130 35 pkLv false (.cv 3) lkS with cx := ⟨bs9, [.lt (.iv 40) (tlen (.cv 0))]⟩, nx := 140 }
def P9 : List Nat := [1, 0, 1, 2]
def rR9 (P : Program) (fn : Func) : Rs := run P [] 10 400 134 (.code (pre P9 (rC8 fn))) rS9
def lkB (l : Nat) (t : Tm) : Bk := ⟨l, 35, [], false, none, .tab pkLv t⟩
def cx9 : Cx := ⟨⟨.iv 41, 0, 1099511627776⟩ :: bsD ++ bs9, .le (.iv 41) (tlen (.cv 3)) :: pcD⟩
def vs8 : List (Nat × SV) := (9, .one (.c (.fn 17 [46, 54]))) :: vs0
def rT9 : Sy.St := ⟨tmL 228 ((114, .one (.c (.slt 130 9 (.il 0) (tlen (.cv 3)) (.il 0)))) :: (115, vi (tlen (.cv 3))) :: (116, vi (.iv 41)) :: vs8), lkB 130 (.cv 3) :: bx4 ++ [uB 108 (tlen (.cv 0)), loB 108 (.cv 0)], cx9, 150⟩
def rwC (t i : Tm) : List C := [.int .u32 (.tb (.get (.int .u32) 0) t i (.il 0)), .int .u32 (.tb (.get (.int .u32) 1) t i (.il 0)), .int .i64 (.tb (.get (.int .i64) 2) t i (.il 0)), .int .i64 (.tb (.get (.int .i64) 3) t i (.il 0)), .int .i64 (.tb (.get (.int .i64) 4) t i (.il 0)), .bool (.tb (.get .bool 5) t i (.il 0)), .bool (.tb (.get .bool 6) t i (.il 0)), .int .i64 (.tb (.get (.int .i64) 7) t i (.il 0)), .str (.tb (.get .str 8) t i (.il 0))]
def fiOk : List SV → Bool := sameT [.one (.agg (pkC 20)), .one (.agg (rwC (.cv 3) (.iv 41)))]
def fgT : Tm := .eq (.ap 61 (.il 0) (.iv 41) (.il 0)) (.il 1)
def fiSp : Sy.Spec := pureSpec 19 (fun c xs => if fiOk xs then some (need c (.lt (.iv 41) (tlen (.cv 3)))) else none) (fun _ xs => if fiOk xs then some (.one (.c (.bool fgT)), []) else none)
def rC9 (fn : Func) : Code := lpBody (Sy.sub P9 (rC8 fn))
def rR9b (P : Program) (fn : Func) : Rs := run P [fiSp] 10 400 134 (.code (rC9 fn)) rT9
/-! One more. -/
def rC10 (fn : Func) : Code := Sy.sub [1, 1] (rC8 fn)
def rT10 : Sy.St := ⟨tmL 228 vs8, ⟨152, 0, [.slt 130 9 (.il 0) (tlen (.cv 3)) (.il 0)], false, none, .al lkS⟩ :: lkB 130 (.cv 3) :: bx4 ++ [uB 108 (tlen (.cv 0)), loB 108 (.cv 0)], ⟨bs9, [.lt (.iv 40) (tlen (.cv 0))]⟩, 160⟩
def rR10 (P : Program) (fn : Func) : Rs := run P [] 10 400 154 (.code (pre [1] (rC10 fn))) rT10
def rC26 (fn : Func) : Code := Sy.sub [1] (rC10 fn)
def lpB (t : Tm) : Bk := ⟨182, 35, [], true, none, .tab pkLv t⟩
def cx26 : Cx := ⟨⟨.iv 40, 0, 7⟩ :: ⟨tlen (.cv 4), 1, 1099511627776⟩ :: ⟨tlen (.cv 0), 1, 8⟩ :: rtBs, [.lt (.iv 40) (tlen (.cv 0))]⟩
def rT26 (v : SV) : Sy.St := ⟨tmL 228 ((12, v) :: vs8), lpB (.cv 4) :: bx4 ++ [uB 108 (tlen (.cv 0)), loB 108 (.cv 0)], cx26, 200⟩
def sl12 (n : Tm) : SV := .one (.c (.slt 182 9 (.il 0) n (.il 0)))
def vlT : Tm := .ap 62 (.iv 300) (.iv 301) (.iv 302)
def rR26 (P : Program) (fn : Func) : Rs := run P [] 10 400 184 (.code (Sy.sub [0] (rC26 fn))) (rT26 (.one (.c (.vls vlT))))
/-! The end. -/
def rC27 (fn : Func) : Code := Sy.sub [1] (rC26 fn)
def bs27 : List Bd := ⟨.iv 40, 0, 7⟩ :: ⟨tlen (.cv 4), 1, 1099511627776⟩ :: ⟨tlen (.cv 5), 1, 8⟩ :: rtBs
def hp27 : List Bk := lpB (.cv 4) :: bx4 ++ [uB 108 (tlen (.cv 5)), loB 108 (.cv 5)]
def vs12 : List (Nat × SV) := (12, sl12 (tlen (.cv 4))) :: vs8
def rT27 (n : Tm) : Sy.St := ⟨tmL 228 vs12, lpB (.cv 4) :: bx4 ++ [uB 108 n, loB 108 (.cv 5)], ⟨bs27, []⟩, 200⟩
def P28 : List Nat := [1, 0, 1, 2]
def rR27 (P : Program) (fn : Func) : Rs := run P [] 10 400 184 (.code (pre P28 (rC27 fn))) (rT27 (tlen (.cv 5)))
def qBs (i : Tm) : List Bd := [⟨i, 0, 1099511627776⟩, ⟨.mul (.il 8) (.tb (.get (.int .i64) 7) (.cv 4) i (.il 0)), 0, 4000⟩, ⟨.len (.tb (.get .str 8) (.cv 4) i (.il 0)), 0, 4000⟩, ⟨.add (.mul (.il 8) (.tb (.get (.int .i64) 7) (.cv 4) i (.il 0))) (.len (.tb (.get .str 8) (.cv 4) i (.il 0))), 0, 4000⟩]
def rT28 : Sy.St := ⟨tmL 228 ((13, .one (.c (.str (.sl [])))) :: (14, vi (.iv 43)) :: (147, sl12 (tlen (.cv 4))) :: (148, vi (tlen (.cv 4))) :: (149, vi (.iv 45)) :: vs12), hp27, ⟨qBs (.iv 45) ++ bs27, [.le (.iv 45) (tlen (.cv 4))]⟩, 210⟩
def rC28 (fn : Func) : Code := lpBody (Sy.sub P28 (rC27 fn))
def rR28 (P : Program) (fn : Func) : Rs := run P [] 10 400 184 (.code (rC28 fn)) rT28
/-! The bytes. -/
def rC30 (fn : Func) : Code := Sy.sub [1, 1] (rC27 fn)
def rT30 : Sy.St := ⟨tmL 228 ((13, .one (.c (.str (.sl [])))) :: (14, vi (.iv 43)) :: vs12), hp27, ⟨⟨.iv 43, -1, 4000⟩ :: bs27, []⟩, 210⟩
def rR30 (P : Program) (fn : Func) : Rs := run P [] 10 400 184 (.code (pre P28 (rC30 fn))) rT30
def ouB : Bk := ⟨210, 35, pkC 70, true, none, .no⟩
def vsO : List (Nat × SV) := (13, .one (.c (.str (.sv 61)))) :: (14, vi (.iv 43)) :: (17, vp 210) :: (18, .one (.c (.bool (.bv 62)))) :: vs12
def cxO : Cx := ⟨⟨.len (.sv 61), 0, 4000⟩ :: ⟨.iv 43, -1, 4000⟩ :: bs27, []⟩
def rTO : Sy.St := ⟨tmL 228 vsO, ouB :: hp27, cxO, 220⟩
def rCO (fn : Func) : Code := lpBody (Sy.sub P28 (rC30 fn))
def PI : List Nat := [1, 2, 1, 1, 2]
def rRO (P : Program) (fn : Func) : Rs := run P [] 10 400 184 (.code (pre PI (rCO fn))) rTO
def cxI : Cx := ⟨qBs (.iv 45) ++ cxO.bs, [.le (.iv 45) (tlen (.cv 4))]⟩
def rTI : Sy.St := ⟨tmL 228 ((172, sl12 (tlen (.cv 4))) :: (173, vi (tlen (.cv 4))) :: (174, vi (.iv 45)) :: vsO), ouB :: hp27, cxI, 230⟩
def rCI (fn : Func) : Code := lpBody (Sy.sub PI (rCO fn))
def rRI (P : Program) (fn : Func) : Rs := run P [] 10 400 184 (.code (rCI fn)) rTI
/-! At last. -/
def rC48 (fn : Func) : Code := Sy.sub [1, 1] (rC30 fn)
def cutB : Tm := .tb .cut (.cv 5) (.add (.iv 40) (.il 1)) (.add (.add (.iv 40) (.sub (tlen (.cv 5)) (.add (.iv 40) (.il 1)))) (.il 1))
def pcE : List Tm := [.le (.mul (.add (.iv 40) (tlen cutB)) (.il 32)) (.il 140737488355328), .le (.add (.add (.iv 40) (.sub (tlen (.cv 5)) (.add (.iv 40) (.il 1)))) (.il 1)) (tlen (.cv 5)), .le (.add (.iv 40) (.il 1)) (tlen (.cv 5)), .le (.iv 40) (tlen (.cv 5)), .lt (.iv 40) (tlen (.cv 5))]
def cx48 : Cx := ⟨⟨.sub (tlen (.cv 5)) (.add (.iv 40) (.il 1)), 0, 8⟩ :: cxO.bs, pcE⟩
def rR48 (P : Program) (fn : Func) : Rs := run P [] 10 400 184 (.code (rC48 fn)) { rTO with cx := cx48 }
end Go.Proofs.Ytnmfmjlpfhdgeaa
