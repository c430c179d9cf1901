/- Loops over maps: an entry a round, in an order that is drawn. -/
import Derived.Test.YtnmfmjlpfhdgeaaSyCh
import Derived.Maps.RangeRun
namespace Go.Proofs.Ytnmfmjlpfhdgeaa
namespace Sy
open Go Go.RowKit
open Go.ChangeMaps (setBlock)
set_option linter.unusedVariables false
set_option linter.unusedSimpArgs false

/-- Operations without guards, one after the other. -/
def opsSt (P : Program) (sp : List Spec) (lim fuel n0 : Nat) : List Oper → St → Option St
  | [], s => some s
  | o :: l, s => match o.guard, run P sp lim fuel n0 (.op o s.nx) s with
    | none, .ok [.out .normal s1] => opsSt P sp lim fuel n0 l s1
    | _, _ => none
theorem opsSt_ok {P : Program} {B : Bs} {sp : List Spec} (hρ : B.ρ.good) (hsp : ∀ q ∈ sp, q.Ok P B.ρ) {lim fuel : Nat} {all : Array Oper} {ys : List Oper} {Q : Exit → Act → World → Prop} : ∀ {xs : List Oper} {s s1 : St}, opsSt P sp lim fuel B.n0 xs s = some s1 → (∀ β a w, B.Md s1 β a w → wpList P all Q ys a w) → ∀ {β : Bn} {a : Act} {w : World}, B.Md s β a w → wpList P all Q (xs ++ ys) a w
  | [], s, s1, h, hk, β, a, w, hM => by
    injection h with h
    subst h
    exact hk β a w hM
  | o :: l, s, s1, h, hk, β, a, w, hM => by
    simp only [opsSt] at h
    split at h
    · rename_i s2 hg hr
      refine wpList_plain hg fun K hK => ?_
      have := run_ok hρ hsp lim fuel B.n0 (.op o s.nx) s _ hr B (fun e a w => e = .normal → K a w) rfl rfl trivial (fun x hx => by
        rw [List.mem_singleton.1 hx]
        intro β a w hM2 _
        exact hK _ _ (opsSt_ok hρ hsp h hk hM2)) β a w hM
      exact wp_weaken (fun a w h => h rfl) this
    · cases h
/-- A choice whose test is known in letters. -/
theorem cond_wp {P : Program} {ρ : Env} {S : Nat → Prop} {w0 w : World} {β0 : Bn} {n0 : Nat} {s : St} {β : Bn} {a : Act} (hM : Md ρ S w0 β0 n0 s β a w) {c : Operand} {t : Tm} (hc : opd s.tm c = some (.one (.c (.bool t)))) {x y : Code} {Q : Exit → Act → World → Prop}
    (h1 : (den ρ t).b = true → x.wp P Q a w) (h2 : (den ρ t).b = false → y.wp P Q a w) : (Code.cond c x y).wp P Q a w := by
  have := Sy.Md.opd hM hc
  exact wp_cond_split (t := (den ρ t).b) this h1 h2
/-- A part of the code; its leaves are brought to a template. -/
theorem seg_wp {P : Program} {sp : List Spec} {S : Nat → Prop} {w0 : World} {β0 : Bn} {lim fuel n0 : Nat} {c : Code} {s T : St} {r : Rs} (hr : r = run P sp lim fuel n0 (.code c) s) {ys : List Sh} (hrun : shR n0 (some T) r = some ys) {Q : Exit → Act → World → Prop}
    (I : Env → Prop) (hcx : ∀ ρ, I ρ → T.cx.ok ρ) {ρ : Env} (hg : ρ.good) (hsp : ∀ q ∈ sp, q.Ok P ρ) (hd : AllL (Sh.done r ⟨ρ, S, w0, β0, n0⟩ Q fun l β => ∀ u, I { ρ.sub β l with u := u }) ys)
    (next : ∀ ρ', I ρ' → ∀ β a w, Md ρ' S w0 β0 n0 T β a w → Q .normal a w) {β : Bn} {a : Act} {w : World} (hM : Md ρ S w0 β0 n0 s β a w) : c.wp P Q a w := by
  obtain ⟨l, hl, hok⟩ := shR_ok (B := ⟨ρ, S, w0, β0, n0⟩) (Q := Q) (again := fun l β => ∀ u, I { ρ.sub β l with u := u }) (by
    intro T' hT l s hm β a w hM h
    injection hT with hT
    subst hT
    have h1 := h (ρ.sub β l).u
    rw [← sub_noU] at h1
    exact next _ h1 _ _ _ (Sy.Md.matched hM hm (hcx _ h1))) hrun hd
  exact run_ok hg hsp lim fuel n0 (.code c) s l (hr.symm.trans hl) ⟨ρ, S, w0, β0, n0⟩ Q rfl rfl trivial hok β a w hM
/-- The letters below another bound are held fast. -/
theorem Md.at_ {ρ : Env} {S : Nat → Prop} {w0 w : World} {β0 : Bn} {n0 : Nat} {s : St} {β : Bn} {a : Act} (hM : Md ρ S w0 β0 n0 s β a w) (n : Nat) : Md ρ S w0 β n s β a w := ⟨hM.act, hM.hp, hM.ne, hM.may, hM.cx, hM.only, fun _ _ => rfl⟩
theorem Md.back {ρ : Env} {S : Nat → Prop} {w0 w : World} {β0 β1 : Bn} {n0 n : Nat} {s : St} {β : Bn} {a : Act} (hM : Md ρ S w0 β1 n s β a w) (hn : n0 ≤ n) (h : ∀ l, l < n0 → β1 l = β0 l) : Md ρ S w0 β0 n0 s β a w := ⟨hM.act, hM.hp, hM.ne, hM.may, hM.cx, hM.only, fun l hl => (hM.old l (by omega)).trans (h l hl)⟩
/-- All blocks to be read alone. -/
def ro (s : St) : St := { s with hp := s.hp.map fun b => { b with rw := false } }
theorem Md.ro {ρ : Env} {S : Nat → Prop} {w0 w : World} {β0 : Bn} {n0 : Nat} {s : St} {β : Bn} {a : Act} (hM : Md ρ S w0 β0 n0 s β a w) (n : Nat) : Md ρ (fun _ => False) w β n (Sy.ro s) β a w := by
  refine ⟨hM.act, fun b hb => ?_, fun x hx y hy hne hrx hry => ?_, fun b hb hw => ?_, hM.cx, Only.refl _ _, fun _ _ => rfl⟩
  · obtain ⟨b', hb', rfl⟩ := List.mem_map.1 hb
    exact hM.hp b' hb'
  · obtain ⟨x', hx', rfl⟩ := List.mem_map.1 hx
    obtain ⟨y', hy', rfl⟩ := List.mem_map.1 hy
    exact hM.ne x' hx' y' hy' hne hrx hry
  · obtain ⟨b', hb', rfl⟩ := List.mem_map.1 hb
    cases hw
theorem Md.unro {ρ : Env} {S : Nat → Prop} {w0 w1 w : World} {β1 : Bn} {n : Nat} {s : St} {β : Bn} {a : Act} (hM : Md ρ (fun _ => False) w1 β1 n (Sy.ro s) β a w) (ho : Only S w0 w1) (h : ∀ b ∈ s.hp, b.rw = true → b.real β → ∀ g, fp β b g → S g ∨ w0.heap.size ≤ g) : Md ρ S w0 β1 n s β a w :=
  ⟨hM.act, fun b hb => hM.hp { b with rw := false } (List.mem_map.2 ⟨b, hb, rfl⟩), fun x hx y hy hne hrx hry => hM.ne { x with rw := false } (List.mem_map.2 ⟨x, hx, rfl⟩) { y with rw := false } (List.mem_map.2 ⟨y, hy, rfl⟩) hne hrx hry, h, hM.cx, ho.trans (hM.only.mono fun _ _ h => h.elim), hM.old⟩
theorem inj_of_nodup {α γ : Type} (f : α → γ) : ∀ {l : List α}, (l.map f).Nodup → ∀ {x y : α}, x ∈ l → y ∈ l → f x = f y → x = y
  | [], _, x, _, hx, _, _ => by cases hx
  | z :: l, h, x, y, hx, hy, e => by
    rw [List.map_cons, List.nodup_cons] at h
    rcases List.mem_cons.1 hx with ex | hx' <;> rcases List.mem_cons.1 hy with ey | hy'
    · rw [ex, ey]
    · exact absurd (List.mem_map.2 ⟨y, hy', by rw [← e, ex]⟩) h.1
    · exact absurd (List.mem_map.2 ⟨x, hx', by rw [e, ey]⟩) h.1
    · exact inj_of_nodup f h.2 hx' hy' e
section
variable {P : Program} {ρ : Env} {S : Nat → Prop} {w0 w : World} {β0 : Bn} {n0 : Nat} {s : St} {β : Bn} {a : Act}
/-- A slot that may hold anything is written. -/
theorem Md.putAny (hM : Md ρ S w0 β0 n0 s β a w) {d k : Nat} (hd : s.tm[d]? = some (.any k)) (hno : noAny k (s.tm.set d undS) = true) (v : Value) : Md { ρ with u := fun n => if n = k then v else ρ.u n } S w0 β0 n0 s β (a.put (some d) v) w := by
  have M1 := Sy.Md.put hM (some d) undS
  have M2 := Sy.Md.setU M1 k v hno
  have M3 := Sy.Md.put M2 (some d) (.any k)
  have e1 : ((s.put (some d) undS).put (some d) (.any k)) = s := by
    show ({ s with tm := (s.tm.set d undS).set d (.any k) } : St) = s
    have : (s.tm.set d undS).set d (.any k) = s.tm := by
      rw [List.set_set]
      apply List.ext_getElem?
      intro i
      rw [List.getElem?_set]
      split
      · rename_i q
        subst q
        split
        · exact hd.symm
        · rename_i q
          rw [List.getElem?_eq_none (by omega)] at hd
          cases hd
      · rfl
    rw [this]
  have e2 : ((a.put (some d) (undS.den ρ β)).put (some d) ((SV.any k).den { ρ with u := fun n => if n = k then v else ρ.u n } β)) = a.put (some d) v := by
    show ((a.put (some d) _).put (some d) (if k = k then v else ρ.u k)) = _
    rw [if_pos rfl]
    simp [Act.put]
  rw [e1, e2] at M3
  exact M3
/-- What a slot holds. -/
theorem Md.slot (hM : Md ρ S w0 β0 n0 s β a w) {d : Nat} {v : SV} (hd : s.tm[d]? = some v) : a.eval (.tmp d) = v.den ρ β := Sy.Md.opd hM (x := .tmp d) hd
theorem Md.alloc (hM : Md ρ S w0 β0 n0 s β a w) (o : Obj) : Md ρ S w0 β0 n0 s β a (w.alloc o) :=
  ⟨hM.act, fun b hb => (hM.hp b hb).alloc o, hM.ne, hM.may, hM.cx, hM.only.alloc o, hM.old⟩
/-- The iterator. -/
structure Itr (β : Bn) (w0 w : World) (s : St) (r m since : Nat) (es : Array MapEntry) (clock : Nat) (seen : Array Nat) : Prop where
  it : ∃ c0, w.heap[r]? = some (.mapIter (some m) since seen c0) ∧ since ≤ c0
  map : w.heap[m]? = some (.map es clock)
  sc : since ≤ clock
  old : ∀ x ∈ es.toList, x.born < since
  nd : (es.toList.map (·.born)).Nodup
  new : w0.heap.size ≤ r
  ne : ∀ b ∈ s.hp, b.real β → ¬ fp β b r
/-- 'range m'. -/
theorem range_op (hM : Md ρ S w0 β0 n0 s β a w) {o : Oper} {t kt et : TypeId} {m d l L : Nat} (hg : o.guard = none) (ho : o.op = .range t (.tmp m)) (hdst : o.dst = some d) (hu : P.underlying t = some (.map kt et)) (hm : s.tm[m]? = some (.one (.c (.map l))))
    {b : Bk} {ks : List Kd} {ag : Bool} {v : Kd} {tt : Tm} (hf : mapFind s.hp l = some (b, ks, ag, v, tt)) (hn : n0 ≤ L) (hf0 : s.free L = true) (hf1 : s.free (L + 1) = true) (hlL : l ≠ L) (hlL1 : l ≠ L + 1) {all : Array Oper} {rest : List Oper} {Q : Exit → Act → World → Prop}
    (h : ∀ es clock w' β', (∀ k, k ≠ L → k ≠ L + 1 → β' k = β k) → β' L = w.heap.size → es.toList.map (fun e => (e.key, e.val)) = (den ρ tt).c.map (entOf ag ks.length) → Itr β' w0 w' s w.heap.size (β l) clock es clock #[] → Md ρ S w0 β0 n0 (s.put (some d) (.one (.c (.ptr L 0)))) β' (a.put (some d) (.pointer (some ⟨w.heap.size, 0, none⟩))) w' → wpList P all Q rest (a.put (some d) (.pointer (some ⟨w.heap.size, 0, none⟩))) w') :
    wpList P all Q (o :: rest) a w := by
  obtain ⟨hbm, hbl, hs, hx⟩ := mapFind_ok hf
  have hMT := (hM.hp b hbm).map hs hx
  rw [hbl] at hMT
  obtain ⟨es, clock, hob, he, hst⟩ := hMT.obj
  have hlt : β l < w.heap.size := (Array.getElem?_eq_some_iff.1 hob).1
  have e1 : (w.alloc (.mapIter (some (β l)) clock #[] clock)).heap[β l]? = some (.map es clock) := (Below.heap_alloc w _ _ hlt).trans hob
  refine wpList_val (v := .pointer (some ⟨w.heap.size, 0, none⟩)) (w' := w.alloc (.mapIter (some (β l)) clock #[] clock)) hg ?_ ?_
  · have hr : (Instr.range t (.map (some (β l)))).run P w = .ok (.pointer (some ⟨w.heap.size, 0, none⟩)) (w.alloc (.mapIter (some (β l)) clock #[] clock)) := by
      simp [Instr.range, run_underlying hu, Go.MapKept.run_getObj_map hob, Result.andThen]
    have hv : a.eval (.tmp m) = .map (some (β l)) := Sy.Md.slot hM hm
    unfold execOp
    simp only [ho, hv, Sem.run_bind, hr, Result.andThen_ok, Sem.run_pure]
  · rw [hdst]
    have M1 := Sy.Md.letter (Sy.Md.alloc hM (.mapIter (some (β l)) clock #[] clock)) L w.heap.size 0 hn hf0 hf1
    have hL : upd (upd β L w.heap.size) (L + 1) 0 L = w.heap.size := (upd_old (by omega)).trans (upd_new ..)
    have M2 := Sy.Md.put M1 (some d) (.one (.c (.ptr L 0)))
    have e2 : (SV.one (.c (.ptr L 0))).den ρ (upd (upd β L w.heap.size) (L + 1) 0) = .pointer (some ⟨w.heap.size, 0, none⟩) := by
      show Value.pointer (some ⟨upd (upd β L w.heap.size) (L + 1) 0 L, 0, none⟩) = _
      rw [hL]
    rw [e2] at M2
    refine h es clock _ _ (fun k h1 h2 => (upd_old h2).trans (upd_old h1)) hL he ⟨⟨clock, (Go.MapKept.heap_alloc w _).1, Nat.le_refl _⟩, e1, Nat.le_refl _, hst.1, hst.2.1, hM.only.size, fun b hb hr => ?_⟩ M2
    have := (M1.hp b hb)
    unfold St.free at hf0 hf1
    simp only [Bool.and_eq_true, List.all_eq_true, Bool.not_eq_true'] at hf0 hf1
    have q0 := hf0.2 b hb
    have q1 := hf1.2 b hb
    have e3 : upd (upd β L w.heap.size) (L + 1) 0 b.l = β b.l := (upd_old (beq_ne q1.1)).trans (upd_old (beq_ne q0.1))
    have e4 : upd (upd β L w.heap.size) (L + 1) 0 (b.l + 1) = β (b.l + 1) := (upd_old (beq_ne q1.2.2)).trans (upd_old (beq_ne q0.2.2))
    have hr' : b.real β := hr.imp id fun h => by rw [← e4]; exact h
    intro hg
    have := (hM.hp b hb).fplt hr' ((fp_agree e3 ((denL_upd ρ q1.2.1).trans (denL_upd ρ q0.2.1)) _).1 hg)
    omega
theorem leftOf_mem {es : Array MapEntry} {seen : Array Nat} {e : MapEntry} : e ∈ (leftOf es seen).toList ↔ e ∈ es.toList ∧ e.born ∉ seen.toList := by
  unfold leftOf
  simp
theorem leftOf_push {es : Array MapEntry} {seen : Array Nat} {e : MapEntry} (he : e ∈ (leftOf es seen).toList) : (leftOf es (seen.push e.born)).size < (leftOf es seen).size := by
  have h : (leftOf es (seen.push e.born)).toList = (leftOf es seen).toList.filter (fun x => decide (x.born ≠ e.born)) := by
    unfold leftOf
    rw [Array.toList_filter, Array.toList_filter, List.filter_filter]
    apply List.filter_congr
    intro x _
    simp [Array.contains_push]
    by_cases q : x.born = e.born <;> simp [q]
  rw [← Array.length_toList, ← Array.length_toList, h]
  have : ∀ l : List MapEntry, e ∈ l → (l.filter (fun x => decide (x.born ≠ e.born))).length < l.length := by
    intro l
    induction l with
    | nil => intro h; cases h
    | cons x l ih =>
      intro h
      rw [List.filter_cons]
      split
      · rename_i q
        rcases List.mem_cons.1 h with rfl | h
        · simp at q
        · simpa using ih h
      · exact Nat.lt_succ_of_le (List.length_filter_le ..)
  exact this _ he
/-- A round's head: the next entry, or none. -/
theorem next_wp {T : St} {r m since : Nat} {es : Array MapEntry} {clock : Nat} {seen : Array Nat} (hM : Md ρ S w0 β0 n0 T β a w) (hI : Itr β w0 w T r m since es clock seen) {o1 o2 : Oper} {dit dn kn dx kx : Nat} (g1 : o1.guard = none) (p1 : o1.op = .next (.tmp dit) false) (t1 : o1.dst = some dn) (g2 : o2.guard = none) (p2 : o2.op = .extract (.tmp dn) 0) (t2 : o2.dst = some dx)
    (hv : a.eval (.tmp dit) = .pointer (some ⟨r, 0, none⟩)) (hn : T.tm[dn]? = some (.any kn)) (hn' : noAny kn (T.tm.set dn undS) = true) (hx : T.tm[dx]? = some (.any kx)) (hx' : noAny kx (T.tm.set dx undS) = true) (hkn : kn ≠ kx) {all : Array Oper} {Q : Exit → Act → World → Prop}
    (none_ : (∀ e ∈ es.toList, e.born ∈ seen.toList) → ∀ a', Md { ρ with u := fun n => if n = kx then .bool false else if n = kn then .tuple #[.bool false] else ρ.u n } S w0 β0 n0 T β a' w → Q .normal a' w)
    (some_ : ∀ e ∈ es.toList, e.born ∉ seen.toList → ∀ a' w', Md { ρ with u := fun n => if n = kx then .bool true else if n = kn then .tuple #[.bool true, e.key, e.val] else ρ.u n } S w0 β0 n0 T β a' w' → Itr β w0 w' T r m since es clock (seen.push e.born) → w'.heap[r]? = some (.mapIter (some m) since (seen.push e.born) clock) → Q .normal a' w') :
    wpList P all Q [o1, o2] a w := by
  obtain ⟨c0, hit0, hsc⟩ := hI.it
  -- the second operation
  have second : ∀ (b : Bool) (vs : List Value) (w' : World), Md ρ S w0 β0 n0 T β a w' → (∀ a', Md { ρ with u := fun n => if n = kx then .bool b else if n = kn then .tuple (.bool b :: vs).toArray else ρ.u n } S w0 β0 n0 T β a' w' → Q .normal a' w') → wpList P all Q [o2] (a.put (some dn) (.tuple (.bool b :: vs).toArray)) w' := by
    intro b vs w' hM' hk
    have M1 := Sy.Md.putAny hM' hn hn' (.tuple (.bool b :: vs).toArray)
    have M2 := Sy.Md.putAny M1 hx hx' (.bool b)
    refine wpList_val (v := .bool b) (w' := w') g2 ?_ ?_
    · have := Sy.Md.slot M1 hn
      have e : (SV.any kn).den { ρ with u := fun n => if n = kn then .tuple (.bool b :: vs).toArray else ρ.u n } β = .tuple (.bool b :: vs).toArray := if_pos rfl
      rw [e] at this
      unfold execOp
      simp only [p2, this, Instr.extract, Sem.run_bind, List.getElem?_toArray, List.getElem?_cons_zero, Sem.run_pure, Result.andThen_ok]
    · rw [t2]
      exact wpList_nil (hk _ M2)
  rcases run_next_at (P := P) w o1.type r m since c0 seen es clock hit0 hI.map hI.old hsc with ⟨h0, hrun⟩ | ⟨e, he, w1, hw1, hrun⟩
  · refine wpList_val (v := .tuple #[.bool false]) (w' := w) g1 ?_ ?_
    · unfold execOp
      simp only [p1, hv, Sem.run_bind, hrun, Result.andThen_ok, Sem.run_pure]
    · rw [t1]
      refine second false [] w hM (none_ fun e he => ?_)
      refine Classical.byContradiction fun hno => ?_
      have : e ∈ (leftOf es seen).toList := leftOf_mem.2 ⟨he, hno⟩
      rw [List.eq_nil_of_length_eq_zero (show (leftOf es seen).toList.length = 0 from h0)] at this
      cases this
  · obtain ⟨he1, he2⟩ := leftOf_mem.1 he
    have hw1h : w1.heap = w.heap := by rcases hw1 with rfl | rfl <;> rfl
    have hrlt : r < w.heap.size := (Array.getElem?_eq_some_iff.1 hit0).1
    have M0 : Md ρ S w0 β0 n0 T β a w1 := by
      rcases hw1 with rfl | rfl
      · exact hM
      · exact ⟨hM.act, fun b hb => (hM.hp b hb).drew, hM.ne, hM.may, hM.cx, Only.drew hM.only, hM.old⟩
    have M1 : Md ρ S w0 β0 n0 T β a (setBlock w1 r (.mapIter (some m) since (seen.push e.born) clock)) := by
      refine ⟨M0.act, fun b hb => (M0.hp b hb).keep fun hr g hg _ => ?_, M0.ne, M0.may, M0.cx, ?_, M0.old⟩
      · exact Array.getElem?_setIfInBounds_ne (Ne.symm fun e => hI.ne b hb hr (by rw [← e]; exact hg))
      · exact Sy.Only.setObj _ (.inr hI.new) M0.only
    have hh : (setBlock w1 r (.mapIter (some m) since (seen.push e.born) clock)).heap[r]? = some (.mapIter (some m) since (seen.push e.born) clock) := by
      show (w1.heap.setIfInBounds r _)[r]? = _
      rw [hw1h]
      simp [hrlt]
    have hmr : m ≠ r := fun q => by
      have := hI.map
      rw [q, hit0] at this
      cases this
    refine wpList_val (v := .tuple #[.bool true, e.key, e.val]) (w' := setBlock w1 r (.mapIter (some m) since (seen.push e.born) clock)) g1 ?_ ?_
    · unfold execOp
      simp only [p1, hv, Sem.run_bind, hrun, Result.andThen_ok, Sem.run_pure]
    · rw [t1]
      refine second true [e.key, e.val] _ M1 fun a' M2 => some_ e he1 he2 a' _ M2 ⟨⟨clock, hh, ?_⟩, ?_, hI.sc, hI.old, hI.nd, hI.new, hI.ne⟩ hh
      · exact hI.sc
      · show (w1.heap.setIfInBounds r _)[m]? = _
        rw [Array.getElem?_setIfInBounds_ne (Ne.symm hmr), hw1h]
        exact hI.map
/-- The entry's key and value, behind the step. -/
theorem entry_run {w : World} {r m since : Nat} {es : Array MapEntry} {clock : Nat} {seen : Array Nat} {e : MapEntry} (hr : w.heap[r]? = some (.mapIter (some m) since (seen.push e.born) clock)) (hI : Itr β w0 w s r m since es clock (seen.push e.born)) (he : e ∈ es.toList) : (Instr.entry (.pointer (some ⟨r, 0, none⟩))).run P w = .ok (.tuple #[e.key, e.val]) w :=
  run_entry_at w r m since seen es clock e hr hI.map he hI.nd
/-! A table of bytes taken as a row of bytes. -/
def slR (l : Nat) : SV → SV
  | .one (.c (.slt k m off len an)) => if Nat.beq k l && Nat.beq m 1 then .one (.c (.slr k off len an)) else .one (.c (.slt k m off len an))
  | x => x
theorem slR_den {l : Nat} (x : SV) : (slR l x).den ρ β = x.den ρ β := by
  unfold slR
  split
  · rename_i k m off len an
    split
    · rename_i q
      rw [Bool.and_eq_true] at q
      have e := Nat.eq_of_beq_eq_true q.2
      subst e
      show slrZ _ _ _ _ _ = sltZ _ _ 1 _ _ _
      unfold slrZ sltZ
      simp only [Nat.mul_one]
    · rfl
  · rfl
def rows8 (l : List UInt8) : List (List Value) := l.map fun x => [.int .u8 (x.toNat : Int)]
theorem rows8_flat (l : List UInt8) : (rows8 l).flatten = cells8' l := by
  induction l with
  | nil => rfl
  | cons x l ih => show Value.int .u8 _ :: (rows8 l).flatten = _ :: cells8' l; rw [ih]
def asRow (s : St) (b : Bk) (str : Tm) : St := { s with tm := s.tm.map (slR b.l), hp := replHp { b with cs := [], str := some str, x := .no } s.hp }
theorem Md.asRow (hM : Md ρ S w0 β0 n0 s β a w) {b : Bk} {t str : Tm} (hb : b ∈ s.hp) (hs : b.str = none) (hx : b.x = .tab [.int .u8] t) (h : (den ρ t).c = rows8 (den ρ str).s.data.toList) : Md ρ S w0 β0 n0 (Sy.asRow s b str) β a w := by
  have hT := hM.hp b hb
  unfold BkOk at hT
  rw [hs] at hT
  simp only [hx] at hT
  rw [h] at hT
  have hl : (rows8 (den ρ str).s.data.toList).length = (den ρ str).s.data.toList.length := by simp [rows8]
  have hnb : BkOk ρ β w { b with cs := [], str := some str, x := .no } := by
    show RowB w (β b.l) (β (b.l + 1)) b.ty true (den ρ str).s.data.toList
    refine ⟨fun hc => ?_, by have := hT.len; rw [hl] at this; exact this⟩
    obtain ⟨cur, h1, h2, h3, h4⟩ := hT.row hc
    refine ⟨cur, (0, 0), h1, .inl rfl, by rw [h2]; exact Nat.mul_one _, h3, ?_⟩
    rw [rows8_flat, hl] at h4
    rw [← h4]
    show _ = List.take (_ * 1) _
    rw [Nat.mul_one]
  have M1 := Sy.Md.repl hM (b := b) (nb := { b with cs := [], str := some str, x := .no }) hb rfl (fun hr => by
    rcases hr with hr | hr
    · cases hr
    · exact .inr hr) (fun h => h) hM.only hnb (fun x hx _ => hM.hp x hx)
  refine ⟨?_, M1.hp, M1.ne, M1.may, M1.cx, M1.only, M1.old⟩
  rw [hM.act]
  show _ = (⟨((s.tm.map (slR b.l)).map (SV.den ρ β)).toArray, []⟩ : Act)
  rw [List.map_map]
  congr 2
  exact List.map_congr_left fun x _ => (slR_den x).symm
/-- The last part of a function. -/
theorem tail_fin {P : Program} {B : Bs} {sp : List Spec} (hρ : B.ρ.good) (hsp : ∀ q ∈ sp, q.Ok P B.ρ) {lim fuel : Nat} {c : Code} {fn : Func} {s : St} {ys : List Sm} (hrun : smR P fn B.n0 (run P sp lim fuel B.n0 (.code c) s) = some ys) {R : Value → World → Prop} (hR : AllL (Sm.done B R) ys) {β : Bn} {a : Act} {w : World} (hM : B.Md s β a w) : c.wp P (bodyPost P fn (RetP R)) a w := by
  unfold smR at hrun
  split at hrun
  · rename_i l hl
    exact run_ok hρ hsp lim fuel B.n0 (.code c) s l hl B _ rfl rfl trivial (done_ok (smL_ok hrun hR)) β a w hM
  · cases hrun
end
end Sy
end Go.Proofs.Ytnmfmjlpfhdgeaa
