/- A region that draws its order, whose last operation is done by hand; an entry taken out of a map: free of the program's names. -/
import Derived.Test.YtnmfmjlpfhdgeaaSyFo
import Derived.Test.YtnmfmjlpfhdgeaaFragC
namespace Go.Proofs.Ytnmfmjlpfhdgeaa
namespace Sy
open Go Go.RowKit
open Go.ChangeMaps (setBlock)
set_option linter.unusedVariables false
set_option linter.unusedSimpArgs false
/-- The operations that only read are taken, so many. -/
def takesS (P : Program) (ops : Array Oper) (held : List Bk) : Nat → Array Bool → St → Option (Array Bool × St)
  | 0, listed, s => some (listed, s)
  | k + 1, listed, s => match findTake P ops held listed s (Region.ready .any ops listed) with
    | some (i, o, m, v) => if m.isEmpty then takesS P ops held k (listed.setIfInBounds i true) (s.put o.dst v) else none
    | none => none
section
variable {P : Program} {B : Bs} {ops : Array Oper} {held : List Bk} {Q : Exit → Act → World → Prop}
theorem takesS_ok (hρ : B.ρ.good) (hns : Region.noSelect ops = true) (h2 : heldLt B.n0 held = true) {g : Nat} : ∀ {n : Nat} {listed listed' : Array Bool} {s s' : St}, takesS P ops held n listed s = some (listed', s') → heldIn held s.hp = true → ∀ {β : Bn} {a : Act} {w : World}, B.Md s β a w →
    (∀ a', B.Md s' β a' w → wpAnyH P .any ops (NoPanic Q) (SH B held) g listed' a' w) → wpAnyH P .any ops (NoPanic Q) (SH B held) (g + n) listed a w := by
  intro n
  induction n with
  | zero =>
    intro listed listed' s s' h _ β a w hM hk
    injection h with h
    injection h with h1 h2
    subst h1 h2
    exact hk a hM
  | succ n ih =>
    intro listed listed' s s' h h1 β a w hM hk
    rw [takesS] at h
    split at h
    · rename_i i o m v hf
      split at h
      · rename_i hm
        have hm0 : m = [] := by simpa using hm
        subst hm0
        obtain ⟨hi, ht⟩ := findTake_ok hf
        obtain ⟨ho, hfree, hy⟩ := takeS_ok hρ ht h2 hM (fun t ht => by cases ht)
        refine wpAnyH_take ho hns hfree (by simpa using hi) (fun c a w h => h) hy (held_SH h1 h2 hM) ?_
        exact ih h h1 (Md_put hM rfl) hk
      · cases h
    · cases h
theorem region_last {id : Nat} (hmo : P.follows .mixedOrders = true) (hns : Region.noSelect ops = true) {n i : Nat} {o : Oper} (hsz : ops.size = 1 + n) {s s' : St} {listed' : Array Bool} (hh : (heldIn held s.hp && heldLt s.nx held) = true)
    (htk : takesS P ops held n (Array.replicate ops.size false) s = some (listed', s')) (hr : Region.ready .any ops listed' = [i]) (hi : ops[i]? = some o) (hg : o.guard = none) (hr2 : Region.ready .any ops (listed'.setIfInBounds i true) = [])
    (hρ : B.ρ.good) {β : Bn} {a : Act} {w : World} (hM : B.Md s β a w)
    (hand : ∀ a', (B.at β s.nx).Md s' β a' w.drew → ∃ v w', (execOp a'.eval o).run P w.drew = .ok (.value v) w' ∧ SH (B.at β s.nx) held w' ∧ Q .normal (a'.put o.dst v) w') : (Code.region id ops true).wp P Q a w := by
  rw [Bool.and_eq_true] at hh
  refine wp_region_noPanic (wp_region_held (S := SH (B.at β s.nx) held) hmo ?_)
  have hM1 : (B.at β s.nx).Md s β a w.drew := ⟨hM.act, fun b hb => (hM.hp b hb).drew, hM.ne, hM.may, hM.cx, Only.drew hM.only, fun _ _ => rfl⟩
  rw [hsz]
  rw [hsz] at htk
  refine takesS_ok (B := B.at β s.nx) (g := 1) hρ hns hh.2 htk hh.1 hM1 fun a' hM' => ?_
  obtain ⟨v, w', hrun, hS, hQ⟩ := hand a' hM'
  refine wpAnyH_all (rs := Region.ready .any ops listed') rfl (by rw [hr]; simp) fun j hj => ?_
  rw [hr, List.mem_singleton] at hj
  subst hj
  unfold wpOp
  rw [hi]
  have hw : Region.wanted o (yielded ops a'.tmps) = true := by unfold Region.wanted; rw [hg]
  simp only [hw, if_true]
  exact .inl (wp_value hrun ⟨hS, wpAnyH_done hr2 (NoPanic.normal hQ) _⟩)
end
/-- An entry that is there is taken out of a map: just what lies there then. -/
theorem run_deleteX {P : Program} {w : World} {t kt et kty ty : TypeId} {ks : List Kd} {ag : Bool} {v : Kd} {g : Nat} {es : Array MapEntry} {clock j : Nat} {L : List (List Value)} {k : List Value} (hu : P.underlying t = some (.map kt et)) (h : keyOk P kt ks ag = true) (hl : ks.length ≤ 100)
    (ho : w.heap[g]? = some (.map es clock)) (he : es.toList.map (fun e => (e.key, e.val)) = L.map (entOf ag ks.length)) (hL : ∀ r ∈ L, kAll (ks ++ [v]) r) (hk : kAll ks k) (hj : fM ks.length k L = some j) :
    (Builtin.delete_ #[t, kty] ty #[.map (some g), keyV ag k]).run P w = .ok (.tuple #[]) { w with heap := w.heap.setIfInBounds g (.map (es.eraseIdxIfInBounds j) clock) } := by
  have hfind := find_key h hl hk w he hL
  simp only [Builtin.delete_, List.getElem?_toArray, List.getElem?_cons_zero, List.getElem?_cons_succ, Sem.run_bind, run_underlying hu, Result.andThen_ok, Go.MapKept.run_getObj_map ho, key_check h hk, hfind, Sem.run_pure]
  unfold fndV
  rw [hj]
  simp only [Option.map_some, Nat.zero_add]
  rw [Sem.run_bind, Go.MapKept.run_setObj_map _ ho]
  rfl
/-- The iterator (S: it may lie among what may be written). -/
structure Itx (β : Bn) (S : Nat → Prop) (w0 w : World) (s : St) (r m since : Nat) (es : Array MapEntry) (clock : Nat) (seen : Array Nat) : Prop where
  it : ∃ c0, w.heap[r]? = some (.mapIter (some m) since seen c0) ∧ since ≤ c0
  map : w.heap[m]? = some (.map es clock)
  sc : since ≤ clock
  old : ∀ x ∈ es.toList, x.born < since
  nd : (es.toList.map (·.born)).Nodup
  new : S r ∨ w0.heap.size ≤ r
  ne : ∀ b ∈ s.hp, b.real β → ¬ fp β b r
section
variable {P : Program} {ρ : Env} {S : Nat → Prop} {w0 w : World} {β0 : Bn} {n0 : Nat} {s : St} {β : Bn} {a : Act}
/-- A round's head: the next entry, or none. -/
theorem next_wpx {T : St} {r m since : Nat} {es : Array MapEntry} {clock : Nat} {seen : Array Nat} (hM : Md ρ S w0 β0 n0 T β a w) (hI : Itx β S w0 w T r m since es clock seen) {o1 o2 : Oper} {dit dn kn dx kx : Nat} (g1 : o1.guard = none) (p1 : o1.op = .next (.tmp dit) false) (t1 : o1.dst = some dn) (g2 : o2.guard = none) (p2 : o2.op = .extract (.tmp dn) 0) (t2 : o2.dst = some dx)
    (hv : a.eval (.tmp dit) = .pointer (some ⟨r, 0, none⟩)) (hn : T.tm[dn]? = some (.any kn)) (hn' : noAny kn (T.tm.set dn undS) = true) (hx : T.tm[dx]? = some (.any kx)) (hx' : noAny kx (T.tm.set dx undS) = true) (hkn : kn ≠ kx) {all : Array Oper} {Q : Exit → Act → World → Prop}
    (none_ : (∀ e ∈ es.toList, e.born ∈ seen.toList) → ∀ a', Md { ρ with u := fun n => if n = kx then .bool false else if n = kn then .tuple #[.bool false] else ρ.u n } S w0 β0 n0 T β a' w → Q .normal a' w)
    (some_ : ∀ e ∈ es.toList, e.born ∉ seen.toList → ∀ a' w', Md { ρ with u := fun n => if n = kx then .bool true else if n = kn then .tuple #[.bool true, e.key, e.val] else ρ.u n } S w0 β0 n0 T β a' w' → Itx β S w0 w' T r m since es clock (seen.push e.born) → w'.heap[r]? = some (.mapIter (some m) since (seen.push e.born) clock) → Q .normal a' w') :
    wpList P all Q [o1, o2] a w := by
  obtain ⟨c0, hit0, hsc⟩ := hI.it
  -- the second operation
  have second : ∀ (b : Bool) (vs : List Value) (w' : World), Md ρ S w0 β0 n0 T β a w' → (∀ a', Md { ρ with u := fun n => if n = kx then .bool b else if n = kn then .tuple (.bool b :: vs).toArray else ρ.u n } S w0 β0 n0 T β a' w' → Q .normal a' w') → wpList P all Q [o2] (a.put (some dn) (.tuple (.bool b :: vs).toArray)) w' := by
    intro b vs w' hM' hk
    have M1 := Sy.Md.putAny hM' hn hn' (.tuple (.bool b :: vs).toArray)
    have M2 := Sy.Md.putAny M1 hx hx' (.bool b)
    refine wpList_val (v := .bool b) (w' := w') g2 ?_ ?_
    · have := Sy.Md.slot M1 hn
      have e : (SV.any kn).den { ρ with u := fun n => if n = kn then .tuple (.bool b :: vs).toArray else ρ.u n } β = .tuple (.bool b :: vs).toArray := if_pos rfl
      rw [e] at this
      unfold execOp
      simp only [p2, this, Instr.extract, Sem.run_bind, List.getElem?_toArray, List.getElem?_cons_zero, Sem.run_pure, Result.andThen_ok]
    · rw [t2]
      exact wpList_nil (hk _ M2)
  rcases run_next_at (P := P) w o1.type r m since c0 seen es clock hit0 hI.map hI.old hsc with ⟨h0, hrun⟩ | ⟨e, he, w1, hw1, hrun⟩
  · refine wpList_val (v := .tuple #[.bool false]) (w' := w) g1 ?_ ?_
    · unfold execOp
      simp only [p1, hv, Sem.run_bind, hrun, Result.andThen_ok, Sem.run_pure]
    · rw [t1]
      refine second false [] w hM (none_ fun e he => ?_)
      refine Classical.byContradiction fun hno => ?_
      have : e ∈ (leftOf es seen).toList := leftOf_mem.2 ⟨he, hno⟩
      rw [List.eq_nil_of_length_eq_zero (show (leftOf es seen).toList.length = 0 from h0)] at this
      cases this
  · obtain ⟨he1, he2⟩ := leftOf_mem.1 he
    have hw1h : w1.heap = w.heap := by rcases hw1 with rfl | rfl <;> rfl
    have hrlt : r < w.heap.size := (Array.getElem?_eq_some_iff.1 hit0).1
    have M0 : Md ρ S w0 β0 n0 T β a w1 := by
      rcases hw1 with rfl | rfl
      · exact hM
      · exact ⟨hM.act, fun b hb => (hM.hp b hb).drew, hM.ne, hM.may, hM.cx, Only.drew hM.only, hM.old⟩
    have M1 : Md ρ S w0 β0 n0 T β a (setBlock w1 r (.mapIter (some m) since (seen.push e.born) clock)) := by
      refine ⟨M0.act, fun b hb => (M0.hp b hb).keep fun hr g hg _ => ?_, M0.ne, M0.may, M0.cx, ?_, M0.old⟩
      · exact Array.getElem?_setIfInBounds_ne (Ne.symm fun e => hI.ne b hb hr (by rw [← e]; exact hg))
      · exact Sy.Only.setObj _ hI.new M0.only
    have hh : (setBlock w1 r (.mapIter (some m) since (seen.push e.born) clock)).heap[r]? = some (.mapIter (some m) since (seen.push e.born) clock) := by
      show (w1.heap.setIfInBounds r _)[r]? = _
      rw [hw1h]
      simp [hrlt]
    have hmr : m ≠ r := fun q => by
      have := hI.map
      rw [q, hit0] at this
      cases this
    refine wpList_val (v := .tuple #[.bool true, e.key, e.val]) (w' := setBlock w1 r (.mapIter (some m) since (seen.push e.born) clock)) g1 ?_ ?_
    · unfold execOp
      simp only [p1, hv, Sem.run_bind, hrun, Result.andThen_ok, Sem.run_pure]
    · rw [t1]
      refine second true [e.key, e.val] _ M1 fun a' M2 => some_ e he1 he2 a' _ M2 ⟨⟨clock, hh, ?_⟩, ?_, hI.sc, hI.old, hI.nd, hI.new, hI.ne⟩ hh
      · exact hI.sc
      · show (w1.heap.setIfInBounds r _)[m]? = _
        rw [Array.getElem?_setIfInBounds_ne (Ne.symm hmr), hw1h]
        exact hI.map
end
end Sy
end Go.Proofs.Ytnmfmjlpfhdgeaa
/- Fragments: time goes by for the program's table, plainly. -/
namespace Go.Proofs.Ytnmfmjlpfhdgeaa
open Go.RowKit Sy
set_option linter.unusedVariables false
set_option linter.unusedSimpArgs false

/-- An entry of the map, the block that it leads to, what that holds. -/
abbrev Tri := MapEntry × Nat × Ent
/-- What has become of one, once its round is over. -/
def tkF1 (n : Int) (t : Tri) : Option Tri := if n < 30 - t.2.2.1 then some (t.1, t.2.1, (t.2.2.1 + n, t.2.2.2)) else none
def tkF (n : Int) (seen : Array Nat) (t : Tri) : Option Tri := if t.1.born ∈ seen.toList then tkF1 n t else some t
def tkC (n : Int) (seen : Array Nat) (T : List Tri) : List Tri := T.filterMap (tkF n seen)
def triR (T : List Tri) : Rws := T.map fun t => enN t.2.2 ++ [ptv t.2.1]
theorem tkF1_fst {n : Int} {t t' : Tri} (h : tkF1 n t = some t') : t'.1 = t.1 ∧ t'.2.1 = t.2.1 ∧ enN t'.2.2 = enN t.2.2 := by
  unfold tkF1 at h
  split at h
  · injection h with h
    subst h
    exact ⟨rfl, rfl, rfl⟩
  · cases h
theorem tkF_fst {n : Int} {seen : Array Nat} {t t' : Tri} (h : tkF n seen t = some t') : t'.1 = t.1 ∧ t'.2.1 = t.2.1 ∧ enN t'.2.2 = enN t.2.2 := by
  unfold tkF at h
  split at h
  · exact tkF1_fst h
  · injection h with h
    subst h
    exact ⟨rfl, rfl, rfl⟩
theorem fm_congr {α β : Type} {f g : α → Option β} : ∀ {l : List α}, (∀ x ∈ l, f x = g x) → l.filterMap f = l.filterMap g
  | [], _ => rfl
  | a :: l, h => by
    rw [List.filterMap_cons, List.filterMap_cons, h a (List.mem_cons_self ..), fm_congr fun x hx => h x (List.mem_cons_of_mem _ hx)]
theorem tkC_split {n : Int} {seen : Array Nat} {T : List Tri} (hnd : (T.map fun t => t.1.born).Nodup) {t : Tri} (ht : t ∈ tkC n seen T) (hs : t.1.born ∉ seen.toList) : ∃ A B, T = A ++ t :: B ∧ tkC n seen T = tkC n seen A ++ t :: tkC n seen B ∧ tkC n (seen.push t.1.born) T = tkC n seen A ++ ((tkF1 n t).toList ++ tkC n seen B) := by
  obtain ⟨t0, h0, e⟩ := List.mem_filterMap.1 ht
  have : t0 = t := by
    have h1 := (tkF_fst e).1
    unfold tkF at e
    rw [if_neg (by rw [← h1]; exact hs)] at e
    injection e
  subst this
  obtain ⟨A, B, rfl⟩ := List.append_of_mem h0
  have hf : tkF n seen t0 = some t0 := by unfold tkF; rw [if_neg hs]
  have hf' : tkF n (seen.push t0.1.born) t0 = tkF1 n t0 := by unfold tkF; rw [if_pos (by simp)]
  have hoth : ∀ x : Tri, x.1.born ≠ t0.1.born → tkF n (seen.push t0.1.born) x = tkF n seen x := fun x hx => by
    unfold tkF
    rw [Array.toList_push]
    by_cases q : x.1.born ∈ seen.toList
    · rw [if_pos q, if_pos (List.mem_append_left _ q)]
    · rw [if_neg q, if_neg (by rw [List.mem_append, List.mem_singleton]; exact fun c => c.elim q hx)]
  rw [List.map_append, List.map_cons, List.nodup_append, List.nodup_cons] at hnd
  obtain ⟨_, ⟨hB, _⟩, hAB⟩ := hnd
  have eA : ∀ x ∈ A, tkF n (seen.push t0.1.born) x = tkF n seen x := fun x hx => hoth x fun q => hAB _ (List.mem_map.2 ⟨x, hx, rfl⟩) _ (List.mem_cons_self ..) q
  have eB : ∀ x ∈ B, tkF n (seen.push t0.1.born) x = tkF n seen x := fun x hx => hoth x fun q => hB (List.mem_map.2 ⟨x, hx, q⟩)
  refine ⟨A, B, rfl, ?_, ?_⟩
  · unfold tkC
    rw [List.filterMap_append, List.filterMap_cons, hf]
  · unfold tkC
    rw [List.filterMap_append, List.filterMap_cons, hf', fm_congr eA, fm_congr eB]
    cases tkF1 n t0 <;> rfl
/-- How many are still to come. -/
def tkM (seen : Array Nat) (T : List Tri) : Nat := (T.filter fun t => decide (t.1.born ∉ seen.toList)).length
theorem filter_lt {α : Type} {p q : α → Bool} (h : ∀ x, q x = true → p x = true) : ∀ {l : List α} {x : α}, x ∈ l → p x = true → q x = false → (l.filter q).length < (l.filter p).length := by
  intro l
  have le : ∀ l : List α, (l.filter q).length ≤ (l.filter p).length := by
    intro l
    induction l with
    | nil => exact Nat.le_refl _
    | cons a l ih =>
      rw [List.filter_cons, List.filter_cons]
      by_cases hq : q a = true
      · rw [if_pos hq, if_pos (h a hq)]; simpa using ih
      · rw [if_neg hq]
        split
        · simp only [List.length_cons]; omega
        · exact ih
  induction l with
  | nil => intro x hx; cases hx
  | cons a l ih =>
    intro x hx hp hq
    rw [List.filter_cons, List.filter_cons]
    rcases List.mem_cons.1 hx with rfl | hx
    · rw [if_neg (by rw [hq]; decide), if_pos hp]
      have := le l
      simp only [List.length_cons]
      omega
    · have := ih hx hp hq
      by_cases hqa : q a = true
      · rw [if_pos hqa, if_pos (h a hqa)]; simpa using this
      · rw [if_neg hqa]
        split
        · simp only [List.length_cons]; omega
        · exact this
theorem tkM_lt {seen : Array Nat} {T : List Tri} {t : Tri} (ht : t ∈ T) (hs : t.1.born ∉ seen.toList) : tkM (seen.push t.1.born) T < tkM seen T := by
  refine filter_lt (fun x hx => ?_) ht (decide_eq_true hs) (decide_eq_false fun c => c (by simp))
  have := of_decide_eq_true hx
  exact decide_eq_true fun c => this (by rw [Array.toList_push]; exact List.mem_append_left _ c)
theorem tkC_mem {n : Int} {seen : Array Nat} {T : List Tri} {t : Tri} (h : t ∈ tkC n seen T) : ∃ t0 ∈ T, t.1 = t0.1 ∧ t.2.1 = t0.2.1 ∧ enN t.2.2 = enN t0.2.2 := by
  obtain ⟨t0, h0, e⟩ := List.mem_filterMap.1 h
  exact ⟨t0, h0, tkF_fst e⟩
/-- At the end. -/
theorem tkC_end {n : Int} {seen : Array Nat} {T : List Tri} (h : ∀ t ∈ tkC n seen T, t.1.born ∈ seen.toList) : tkC n seen T = T.filterMap (tkF1 n) := by
  unfold tkC
  refine fm_congr fun t ht => ?_
  unfold tkF
  by_cases q : t.1.born ∈ seen.toList
  · rw [if_pos q]
  · refine absurd (h t (List.mem_filterMap.2 ⟨t, ht, ?_⟩)) q
    unfold tkF
    rw [if_neg q]
theorem tk_es (n : Int) (hn : 0 ≤ n) (T : List Tri) : (T.filterMap (tkF1 n)).map (fun t => t.2.2) = tkL (T.map fun t => t.2.2) n := by
  unfold tkL
  rw [if_neg (by omega)]
  induction T with
  | nil => rfl
  | cons t T ih =>
    rw [List.filterMap_cons, List.map_cons, List.filter_cons]
    unfold tkF1 at ih ⊢
    by_cases q : n < 30 - t.2.2.1
    · rw [if_pos q, if_pos (decide_eq_true q)]
      show _ :: _ = _ :: _
      rw [← ih]
    · rw [if_neg q, if_neg (by simpa using q)]
      exact ih
theorem nd_sub {α β γ : Type} {f : α → Option β} {k : β → γ} {k' : α → γ} (h : ∀ a b, f a = some b → k b = k' a) : ∀ {l : List α}, (l.map k').Nodup → ((l.filterMap f).map k).Nodup := by
  intro l
  have sub : ((l.filterMap f).map k).Sublist (l.map k') := by
    induction l with
    | nil => exact .slnil
    | cons a l ih =>
      rw [List.filterMap_cons]
      cases e : f a with
      | none => exact ih.cons _
      | some b => rw [List.map_cons, List.map_cons, h a b e]; exact ih.cons_cons _
  exact fun hn => hn.sublist sub
theorem triR_eq (T : List Tri) : triR T = mpR (T.map fun t => t.2.1) (T.map fun t => t.2.2) := by
  unfold triR mpR
  induction T with
  | nil => rfl
  | cons t T ih => show _ :: _ = _ :: _; rw [ih]
end Go.Proofs.Ytnmfmjlpfhdgeaa
/- Fragments: the program's Tick: runs. -/
namespace Go.Proofs.Ytnmfmjlpfhdgeaa
open Go.RowKit Sy
set_option linter.unusedVariables false
set_option linter.unusedSimpArgs false

def opsL : Code → List Oper
  | .region _ ops _ => ops.toList
  | _ => []
def opsA : Code → Array Oper
  | .region _ ops _ => ops
  | _ => #[]
def tkA : List SV := [.one (.c (.ptr 0 0)), .one (.c (.int .i64 (.iv 20)))]
def tkS : Sy.St := ⟨[], [tbB, mpB (.cv 1)], ⟨[⟨tlen (.cv 1), 0, 8⟩, i64B 20], []⟩, 40⟩
def tkP : List Nat := [1, 1, 0, 0]
def tkR0 (P : Program) (fn : Func) : Rs := run P [] 10 400 4 (.code (pre tkP (bodyOf fn))) (enterS fn tkA tkS)
def tkO4 (fn : Func) : List Oper := (opsL (Sy.sub tkP (bodyOf fn))).take 4
def tkS4 (P : Program) (fn : Func) : Sy.St := (opsSt P [] 10 400 4 (tkO4 fn) (lfAt (tkR0 P fn) 1)).getD default
def tkTm : List SV := (List.range 39).map fun k => if k = 0 then .one (.c (.ptr 0 0)) else if k = 1 then .one (.c (.int .i64 (.iv 20))) else if k = 13 then .one (.c (.ptr 40 0)) else .any k
def tkT : Sy.St := ⟨tkTm, [tbB], ⟨[⟨.iv 20, 0, 9223372036854775807⟩], []⟩, 42⟩
def tkB (fn : Func) : Code := lpBody (Sy.sub [1, 1, 0, 1, 2] (bodyOf fn))
def keC : List C := [.int .u32 (.iv 300), .int .u32 (.iv 301), .int .i64 (.iv 302), .int .i64 (.iv 303)]
def tkS6 : Sy.St := (tkT.put (some 17) (.one (.agg keC))).put (some 18) (.one (.c (.ptv (.iv 304))))
def tkO5 (fn : Func) : List Oper := (opsL (Sy.sub [1, 1, 2, 0] (tkB fn))).drop 3
def tkS7 (P : Program) (fn : Func) : Sy.St := (opsSt P [] 10 400 42 (tkO5 fn) { tkS6 with nx := 60 }).getD default
def tkX (fn : Func) : Code := Sy.sub [1, 1, 2, 1] (tkB fn)
def tkcx : Cx := ⟨[⟨.iv 20, 0, 9223372036854775807⟩, ⟨.iv 213, 0, 29⟩], []⟩
def tkcx9 : Cx := ⟨[⟨.iv 20, 0, 29⟩, ⟨.iv 213, 0, 29⟩], []⟩
def tkS8 (P : Program) (fn : Func) : Sy.St := { St.focusB (tkS7 P fn) 50 (whBk 50 200) (.iv 304) with cx := tkcx, nx := 70 }
def tkR8 (P : Program) (fn : Func) : Rs := run P [] 10 400 62 (.code (pre [0, 1] (tkX fn))) (tkS8 P fn)
def tkS9 (P : Program) (fn : Func) : Sy.St := lfAt (tkR8 P fn) 0
def tkC7 (fn : Func) : Code := codA (Sy.sub [0, 1] (tkX fn))
def tkO7 (fn : Func) : Array Oper := opsA (Sy.sub [0] (tkC7 fn))
def tkS10 (P : Program) (fn : Func) : Sy.St := ((takesS P (tkO7 fn) (tkS9 P fn).hp 5 (Array.replicate (tkO7 fn).size false) (tkS9 P fn)).getD (#[], default)).2
def tkR11 (P : Program) (fn : Func) : Rs := run P [] 10 400 62 (.code (Sy.sub [1] (tkX fn))) { tkS9 P fn with cx := tkcx9 }
set_option maxRecDepth 100000 in
theorem tk_run0 : shR 4 none (tkR0 Try.prog Try.f5) = some [.out 0 .ret [.lt (.iv 20) (.il 0)], .out 1 .normal [.not (.lt (.iv 20) (.il 0))]] := by kernel_rfl
set_option maxRecDepth 100000 in
theorem tk_ret0 : retsB Try.prog Try.f5 (tkR0 Try.prog Try.f5) (.one (.c (.int .i64 (.il 1)))) [0] = true := by kernel_rfl
set_option maxRecDepth 100000 in
theorem tk_hp0 : (match find 2 (lfAt (tkR0 Try.prog Try.f5) 0).hp with | some b => sameBk b (mpB (.cv 1)) | none => false) = true := by kernel_rfl
set_option maxRecDepth 100000 in
theorem tk_rgA : ∃ id o, Sy.sub tkP (bodyOf Try.f5) = .region id (tkO4 Try.f5 ++ [o]).toArray false ∧ o.guard = none ∧ o.op = .range 51 (.tmp 12) ∧ o.dst = some 13 := ⟨3, Sy.opAt (Sy.sub tkP (bodyOf Try.f5)) 4, by kernel_rfl, by kernel_rfl, by kernel_rfl, by kernel_rfl⟩
set_option maxRecDepth 100000 in
theorem tk_s4 : opsSt Try.prog [] 10 400 4 (tkO4 Try.f5) (lfAt (tkR0 Try.prog Try.f5) 1) = some (tkS4 Try.prog Try.f5) := by kernel_rfl
set_option maxRecDepth 100000 in
theorem tk_f4 : ((tkS4 Try.prog Try.f5).tm[12]?, mapFind (tkS4 Try.prog Try.f5).hp 2, (tkS4 Try.prog Try.f5).free 40, (tkS4 Try.prog Try.f5).free 41) = (some (.one (.c (.map 2))), some (mpB (.cv 1), nmLv, true, .ptr, .cv 1), true, true) := by kernel_rfl
set_option maxRecDepth 100000 in
theorem tk_m5 : (matchS 42 { tkT with cx := ⟨[], []⟩ } ((tkS4 Try.prog Try.f5).put (some 13) (.one (.c (.ptr 40 0))))).map noU = some [] := by kernel_rfl
set_option maxRecDepth 100000 in
theorem tk_code : ∃ o1 o2 o3 o4 o5 i1 i2, tkB Try.f5 = .seq (.region i1 #[o1, o2] false) (.seq (.cond (.tmp 15) .skip (.exit 0)) (.block 1 (.seq (.region i2 (o3 :: o4 :: o5 :: tkO5 Try.f5).toArray false) (tkX Try.f5)))) ∧
    (o1.guard = none ∧ o1.op = .next (.tmp 13) false ∧ o1.dst = some 14) ∧ (o2.guard = none ∧ o2.op = .extract (.tmp 14) 0 ∧ o2.dst = some 15) ∧ (o3.guard = none ∧ o3.op = .entry (.tmp 13) ∧ o3.dst = some 16) ∧ (o4.guard = none ∧ o4.op = .extract (.tmp 16) 0 ∧ o4.dst = some 17) ∧ (o5.guard = none ∧ o5.op = .extract (.tmp 16) 1 ∧ o5.dst = some 18) :=
  ⟨Sy.opAt (Sy.sub [0] (tkB Try.f5)) 0, Sy.opAt (Sy.sub [0] (tkB Try.f5)) 1, Sy.opAt (Sy.sub [1, 1, 2, 0] (tkB Try.f5)) 0, Sy.opAt (Sy.sub [1, 1, 2, 0] (tkB Try.f5)) 1, Sy.opAt (Sy.sub [1, 1, 2, 0] (tkB Try.f5)) 2, 4, 5, by kernel_rfl, ⟨by kernel_rfl, by kernel_rfl, by kernel_rfl⟩, ⟨by kernel_rfl, by kernel_rfl, by kernel_rfl⟩, ⟨by kernel_rfl, by kernel_rfl, by kernel_rfl⟩, ⟨by kernel_rfl, by kernel_rfl, by kernel_rfl⟩, ⟨by kernel_rfl, by kernel_rfl, by kernel_rfl⟩⟩
theorem tk_loop : Sy.sub [1, 1, 0, 1] (bodyOf Try.f5) = .block 0 (.loop (tkB Try.f5)) := by kernel_rfl
set_option maxRecDepth 100000 in
theorem tk_end : smR Try.prog Try.f5 42 (run Try.prog [] 10 400 42 (.code (Sy.sub [1, 1, 1] (bodyOf Try.f5))) tkT) = some [.ret (.one (.c (.int .i64 (.il 0)))) [tbB] []] := by kernel_rfl
set_option maxRecDepth 100000 in
theorem tk_any : (tkTm[14]?, tkTm[15]?, tkTm[16]?, noAny 14 (tkTm.set 14 undS), noAny 15 (tkTm.set 15 undS), noAny 16 (tkTm.set 16 undS), tkTm[13]?) = (some (.any 14), some (.any 15), some (.any 16), true, true, true, some (.one (.c (.ptr 40 0)))) := by kernel_rfl
set_option maxRecDepth 100000 in
theorem tk_s7 : opsSt Try.prog [] 10 400 42 (tkO5 Try.f5) { tkS6 with nx := 60 } = some (tkS7 Try.prog Try.f5) := by kernel_rfl
def tkK : Bk := ⟨60, 55, keC, true, none, .no⟩
set_option maxRecDepth 100000 in
theorem tk_f7 : ((tkS7 Try.prog Try.f5).free 50, (tkS7 Try.prog Try.f5).free 51, (tkS7 Try.prog Try.f5).free 52, (tkS7 Try.prog Try.f5).free 53) = (true, true, true, true) := by kernel_rfl
set_option maxRecDepth 100000 in
theorem tk_h7 : (tkS7 Try.prog Try.f5).hp = [tkK, tbB] := by kernel_rfl
set_option maxRecDepth 100000 in
theorem tk_run8 : shR 62 none (tkR8 Try.prog Try.f5) = some [.out 0 .normal []] := by kernel_rfl
set_option maxRecDepth 100000 in
theorem tk_h9 : (tkS9 Try.prog Try.f5).hp = [whBk 50 200, alB 50 (.iv 304), tkK, tbB] := by kernel_rfl
set_option maxRecDepth 100000 in
theorem tk_nx9 : (tkS9 Try.prog Try.f5).nx = 70 := by kernel_rfl
set_option maxRecDepth 100000 in
theorem tk_cond : ∃ x, Sy.sub [0, 1] (tkX Try.f5) = .cond x (tkC7 Try.f5) .skip ∧ opd (tkS9 Try.prog Try.f5).tm x = some (.one (.c (.bool (.le (.sub (.il 30) (.iv 213)) (.iv 20))))) := ⟨codC (Sy.sub [0, 1] (tkX Try.f5)), by kernel_rfl, by kernel_rfl⟩
set_option maxRecDepth 100000 in
theorem tk_c7 : ∃ id, tkC7 Try.f5 = .seq (.region id (tkO7 Try.f5) true) (.exit 1) := ⟨7, by kernel_rfl⟩
set_option maxRecDepth 100000 in
theorem tk_o7 : ∃ o, (tkO7 Try.f5)[5]? = some o ∧ o.guard = none ∧ o.dst = none ∧ (∃ c, o.op = .call c ∧ c.callee = .builtin .delete ∧ c.args = #[.tmp 29, .tmp 30] ∧ c.argTypes = #[51, 55]) := ⟨Sy.opAt (Sy.sub [0] (tkC7 Try.f5)) 5, by kernel_rfl, by kernel_rfl, by kernel_rfl, ⟨_, rfl, by kernel_rfl, by kernel_rfl, by kernel_rfl⟩⟩
set_option maxRecDepth 100000 in
theorem tk_takes : ∃ listed, takesS Try.prog (tkO7 Try.f5) (tkS9 Try.prog Try.f5).hp 5 (Array.replicate (tkO7 Try.f5).size false) (tkS9 Try.prog Try.f5) = some (listed, tkS10 Try.prog Try.f5) ∧ Region.ready .any (tkO7 Try.f5) listed = [5] ∧ Region.ready .any (tkO7 Try.f5) (listed.setIfInBounds 5 true) = [] := ⟨#[true, true, true, true, true, false], by kernel_rfl, by kernel_rfl, by kernel_rfl⟩
set_option maxRecDepth 100000 in
theorem tk_f10 : ((tkS10 Try.prog Try.f5).tm[29]?, (tkS10 Try.prog Try.f5).tm[30]?, (tkS10 Try.prog Try.f5).hp, (tkO7 Try.f5).size, Region.noSelect (tkO7 Try.f5), Try.prog.follows .mixedOrders, (heldIn (tkS9 Try.prog Try.f5).hp (tkS9 Try.prog Try.f5).hp && heldLt (tkS9 Try.prog Try.f5).nx (tkS9 Try.prog Try.f5).hp)) = (some (.one (.c (.map 2))), some (.one (.agg keC)), [whBk 50 200, alB 50 (.iv 304), tkK, tbB], 6, true, true, true) := by kernel_rfl
def whCa : List C := .int .i64 (.iv 210) :: .int .i64 (.iv 211) :: (pkC 230 ++ [.bool (.bv 212), .int .i64 (.add (.iv 213) (.iv 20))])
set_option maxRecDepth 100000 in
theorem tk_run11 : shR 62 none (tkR11 Try.prog Try.f5) = some [.out 0 .normal []] := by kernel_rfl
set_option maxRecDepth 100000 in
theorem tk_h11 : (lfAt (tkR11 Try.prog Try.f5) 0).hp = [⟨50, 60, whCa, true, none, .arr (whIk 200)⟩, alB 50 (.iv 304), tkK, tbB] := by kernel_rfl
set_option maxRecDepth 100000 in
theorem tk_m10 : (matchS 62 { tkT with cx := ⟨[], []⟩ } (tkS10 Try.prog Try.f5)).map noU = some [] := by kernel_rfl
set_option maxRecDepth 100000 in
theorem tk_m11 : (matchS 62 { tkT with cx := ⟨[], []⟩ } (lfAt (tkR11 Try.prog Try.f5) 0)).map noU = some [] := by kernel_rfl
end Go.Proofs.Ytnmfmjlpfhdgeaa
/- Fragments: the program's Tick: a round. -/
namespace Go.Proofs.Ytnmfmjlpfhdgeaa
open Go.RowKit Sy
set_option linter.unusedVariables false
set_option linter.unusedSimpArgs false

theorem tri_of : ∀ {bs : List Nat} {es : List Ent} {E : List MapEntry}, bs.length = es.length → E.map (fun e => (e.key, e.val)) = (mpR bs es).map (entOf true 4) → ∃ T : List Tri, T.map (fun t => t.1) = E ∧ T.map (fun t => t.2.1) = bs ∧ T.map (fun t => t.2.2) = es ∧ ∀ t ∈ T, t.1.key = .agg (enN t.2.2).toArray ∧ t.1.val = ptv t.2.1
  | [], [], E, _, h => ⟨[], (List.map_eq_nil_iff.1 h).symm, rfl, rfl, fun _ h => (by cases h)⟩
  | b :: bs, x :: es, E, hl, h => by
    cases E with
    | nil => cases h
    | cons e E =>
      change (e.key, e.val) :: E.map (fun e => (e.key, e.val)) = entOf true 4 (enN x ++ [ptv b]) :: (mpR bs es).map (entOf true 4) at h
      injection h with h1 h2
      obtain ⟨T, t1, t2, t3, t4⟩ := tri_of (bs := bs) (es := es) (E := E) (by simpa using hl) h2
      refine ⟨(e, b, x) :: T, by rw [List.map_cons, t1], by rw [List.map_cons, t2], by rw [List.map_cons, t3], fun t ht => ?_⟩
      rcases List.mem_cons.1 ht with rfl | ht
      · exact ⟨congrArg Prod.fst h1, congrArg Prod.snd h1⟩
      · exact t4 t ht
  | [], _ :: _, _, h, _ => by cases h
  | _ :: _, [], _, h, _ => by cases h
def tkN (g m r : Nat) : Bn := fun l => if l = 0 then g else if l = 2 then m else if l = 40 then r else 0
def tkE0 (n : Int) (u : Nat → Value) : Env := { mkEnv0 [] [] [] [] with i := fun _ => n, u := u }
structure TkT (w : World) (g m r clock : Nat) (bs : List Nat) (es : List Ent) (T : List Tri) : Prop where
  h : FrT w g m bs es
  b : T.map (fun t => t.2.1) = bs
  e : T.map (fun t => t.2.2) = es
  key : ∀ t ∈ T, t.1.key = .agg (enN t.2.2).toArray ∧ t.1.val = ptv t.2.1
  nd : (T.map fun t => t.1.born).Nodup
  old : ∀ t ∈ T, t.1.born < clock
  new : w.heap.size ≤ r
structure TkJ (w w1 : World) (g m r clock : Nat) (bs : List Nat) (n : Int) (T : List Tri) (seen : Array Nat) (a : Act) : Prop where
  act : ∃ u : Nat → Value, a = ⟨(tkTm.map (SV.den (tkE0 n u) (tkN g m r))).toArray, []⟩
  obj : Blk w1 g 53 [.map (some m)]
  it : ∃ c0, w1.heap[r]? = some (.mapIter (some m) clock seen c0) ∧ clock ≤ c0
  map : ∃ ents : Array MapEntry, w1.heap[m]? = some (.map ents clock) ∧ ents.toList = (tkC n seen T).map fun t => t.1
  blk : ∀ t ∈ tkC n seen T, Blk w1 t.2.1 60 (whV t.2.2.1 t.2.2.2)
  only : Only (fun i => i ∈ frF g m bs) w w1
def tkEnv (n : Int) (t : Tri) (u : Nat → Value) : Env := { mkEnv0 [] [] [] [] with
  i := fun k => if k = 20 then n else if k < 300 then whi t.2.2 (k - 200) else intAt (enN t.2.2 ++ [.int .i64 (t.2.1 : Int)]) (k - 300)
  b := fun k => whb t.2.2 (k - 200)
  s := fun k => strAt (fsC t.2.2.2) (k - 230)
  c := fun k => if k = 201 then byT t.2.2.2 else hsT t.2.2.2
  u := u }
theorem tk_tm {ρ ρ' : Env} {β β' : Bn} (h0 : β 0 = β' 0) (h40 : β 40 = β' 40) (hi : ρ.i 20 = ρ'.i 20) (hu : ρ.u = ρ'.u) : tkTm.map (SV.den ρ β) = tkTm.map (SV.den ρ' β') := by
  unfold tkTm
  rw [List.map_map, List.map_map]
  refine List.map_congr_left fun k _ => ?_
  show SV.den ρ β (if k = 0 then _ else if k = 1 then _ else if k = 13 then _ else _) = SV.den ρ' β' (if k = 0 then _ else if k = 1 then _ else if k = 13 then _ else _)
  by_cases e0 : k = 0
  · rw [if_pos e0]
    show Value.pointer (some ⟨β 0, 0, none⟩) = .pointer (some ⟨β' 0, 0, none⟩)
    rw [h0]
  · rw [if_neg e0]
    by_cases e1 : k = 1
    · rw [if_pos e1]
      show Value.int .i64 (ρ.i 20) = .int .i64 (ρ'.i 20)
      rw [hi]
    · rw [if_neg e1]
      by_cases e2 : k = 13
      · rw [if_pos e2]
        show Value.pointer (some ⟨β 40, 0, none⟩) = .pointer (some ⟨β' 40, 0, none⟩)
        rw [h40]
      · rw [if_neg e2]
        show ρ.u k = ρ'.u k
        rw [hu]
theorem nm_den {ρ : Env} {k : List Value} (hk : kAll nmLv k) (e0 : ρ.i 300 = intAt k 0) (e1 : ρ.i 301 = intAt k 1) (e2 : ρ.i 302 = intAt k 2) (e3 : ρ.i 303 = intAt k 3) (β : Bn) : denL ρ β keC = k := by
  obtain ⟨v0, r0, q0, ⟨a, rfl, _⟩, h0⟩ := kAll_cons hk
  obtain ⟨v1, r1, q1, ⟨b, rfl, _⟩, h1⟩ := kAll_cons h0
  obtain ⟨v2, r2, q2, ⟨c, rfl, _⟩, h2⟩ := kAll_cons h1
  obtain ⟨v3, r3, q3, ⟨d, rfl, _⟩, h3⟩ := kAll_cons h2
  rw [kAll_nil h3] at q3
  subst q3 q2 q1
  rw [q0] at e0 e1 e2 e3 ⊢
  show [Value.int .u32 (ρ.i 300), .int .u32 (ρ.i 301), .int .i64 (ρ.i 302), .int .i64 (ρ.i 303)] = _
  rw [e0, e1, e2, e3]
  rfl
section
variable {w w1 : World} {g m r clock : Nat} {bs : List Nat} {es : List Ent} {n : Int} {T : List Tri} {seen : Array Nat} {a : Act}
theorem TkT.mem (K : TkT w g m r clock bs es T) {t : Tri} (ht : t ∈ tkC n seen T) : t.2.1 ∈ bs ∧ t.1.born < clock ∧ t.1.key = .agg (enN t.2.2).toArray ∧ t.1.val = ptv t.2.1 ∧ kAll nmLv (enN t.2.2) := by
  obtain ⟨t0, h0, e1, e2, e3⟩ := tkC_mem ht
  obtain ⟨k1, k2⟩ := K.key t0 h0
  refine ⟨?_, by rw [e1]; exact K.old t0 h0, by rw [e1, e3]; exact k1, by rw [e1, e2]; exact k2, ?_⟩
  · rw [e2, ← K.b]; exact List.mem_map.2 ⟨t0, h0, rfl⟩
  · rw [e3]
    refine (K.h.ok.ok t0.2.2 ?_).name
    rw [← K.e]; exact List.mem_map.2 ⟨t0, h0, rfl⟩
theorem TkT.ne (K : TkT w g m r clock bs es T) {b : Nat} (hb : b ∈ bs) : b < w.heap.size ∧ b ≠ r ∧ b ≠ m ∧ b ≠ g := by
  have hlt := K.h.lt (i := b) (List.mem_cons_of_mem _ (List.mem_cons_of_mem _ hb))
  have := K.new
  exact ⟨hlt, by omega, fun e => K.h.m_b (e ▸ hb), fun e => K.h.g_b (e ▸ hb)⟩
theorem TkT.gm (K : TkT w g m r clock bs es T) : g < w.heap.size ∧ m < w.heap.size ∧ g ≠ r ∧ m ≠ r ∧ g ≠ m := by
  have h1 := K.h.lt (i := g) (List.mem_cons_self ..)
  have h2 := K.h.lt (i := m) (List.mem_cons_of_mem _ (List.mem_cons_self ..))
  have := K.new
  exact ⟨h1, h2, by omega, by omega, K.h.g_m⟩
/-- The names in the list are all different, so are the blocks. -/
theorem TkT.nds (K : TkT w g m r clock bs es T) : ((tkC n seen T).map fun t => enN t.2.2).Nodup ∧ ((tkC n seen T).map fun t => t.2.1).Nodup ∧ ((tkC n seen T).map fun t => t.1.born).Nodup := by
  refine ⟨nd_sub (k' := fun t : Tri => enN t.2.2) (fun a b h => (tkF_fst h).2.2) ?_, nd_sub (k' := fun t : Tri => t.2.1) (fun a b h => (tkF_fst h).2.1) ?_, nd_sub (k' := fun t : Tri => t.1.born) (fun a b h => by rw [(tkF_fst h).1]) K.nd⟩
  · have := K.h.ok.nd
    rw [← K.e, List.map_map] at this
    exact this
  · rw [K.b]; exact K.h.b_b
/-- A round is over. -/
theorem TkJ.next (K : TkT w g m r clock bs es T) (J : TkJ w w1 g m r clock bs n T seen a) {t : Tri} (ht : t ∈ tkC n seen T) (hs : t.1.born ∉ seen.toList) {w' : World} {a' : Act} (hact : ∃ u : Nat → Value, a' = ⟨(tkTm.map (SV.den (tkE0 n u) (tkN g m r))).toArray, []⟩)
    (ho : Only (fun i => i = r ∨ i = m ∨ i = t.2.1) w1 w') (hit : w'.heap[r]? = some (.mapIter (some m) clock (seen.push t.1.born) clock)) (hmap : ∃ ents : Array MapEntry, w'.heap[m]? = some (.map ents clock) ∧ ents.toList = (tkC n (seen.push t.1.born) T).map fun t => t.1)
    (hblk : ∀ t', tkF1 n t = some t' → Blk w' t'.2.1 60 (whV t'.2.2.1 t'.2.2.2)) : TkJ w w' g m r clock bs n T (seen.push t.1.born) a' := by
  obtain ⟨g1, g2, g3, g4, g5⟩ := K.gm
  have htm := (K.mem ht).1
  obtain ⟨b1, b2, b3, b4⟩ := K.ne htm
  refine ⟨hact, J.obj.only ho fun e => ?_, ⟨clock, hit, Nat.le_refl _⟩, hmap, fun t' ht' => ?_, ⟨ho.os.trans J.only.os, ho.tape.trans J.only.tape, ho.output.trans J.only.output, Nat.le_trans J.only.size ho.size, fun i hi hi' => (ho.block i (Nat.lt_of_lt_of_le hi J.only.size) fun h => ?_).trans (J.only.block i hi hi')⟩⟩
  · rcases e with e | e | e
    · exact g3 e
    · exact g5 e
    · exact b4 e.symm
  · obtain ⟨A, B, _, e2, e3⟩ := tkC_split K.nd ht hs
    rw [e3] at ht'
    have nds := (K.nds (n := n) (seen := seen)).2.1
    rw [e2, List.map_append, List.map_cons, List.nodup_append, List.nodup_cons] at nds
    obtain ⟨_, ⟨nB, _⟩, nAB⟩ := nds
    have keep : t' ∈ tkC n seen T → t'.2.1 ≠ t.2.1 → Blk w' t'.2.1 60 (whV t'.2.2.1 t'.2.2.2) := fun q hne => by
      obtain ⟨c1, c2, c3, c4⟩ := K.ne (K.mem q).1
      exact (J.blk t' q).only ho fun e => e.elim c2 fun e => e.elim c3 hne
    rcases List.mem_append.1 ht' with q | q
    · exact keep (by rw [e2]; exact List.mem_append_left _ q) fun e => nAB _ (List.mem_map.2 ⟨t', q, rfl⟩) _ (List.mem_cons_self ..) e
    · rcases List.mem_append.1 q with q | q
      · exact hblk t' (by simpa using q)
      · exact keep (by rw [e2]; exact List.mem_append_right _ (List.mem_cons_of_mem _ q)) fun e => nB (List.mem_map.2 ⟨t', q, e⟩)
  · rcases h with rfl | rfl | rfl
    · have := K.new
      omega
    · exact hi' (List.mem_cons_of_mem _ (List.mem_cons_self ..))
    · exact hi' (List.mem_cons_of_mem _ (List.mem_cons_of_mem _ htm))
end
end Go.Proofs.Ytnmfmjlpfhdgeaa
