/- Loads, stores, new variables, with letters. -/
import Derived.Test.YthjigajielhkfaaSyG
namespace Go.Proofs.Ythjigajielhkfaa
namespace Sy
open Go Go.RowKit
set_option linter.unusedVariables false
set_option linter.unusedSimpArgs false

def loadS (P : Program) (hp : List Bk) (t : TypeId) (x : SV) : Option V1 :=
  match x with
  | .one (.c (.ptr l off)) =>
    match find l hp with
    | some b =>
      match P.underlying t with
      | some d =>
        if rowB d then
          match P.info? t with
          | some i => if Nat.ble (off + i.size) b.cs.length then some (.agg ((b.cs.take (off + i.size)).drop off)) else none
          | none => none
        else (b.cs[off]?).map .c
      | none => none
    | none => none
  | _ => none
theorem loadS_ok {ρ : Env} {β : Bn} {P : Program} {hp : List Bk} {t : TypeId} {x : SV} {v : V1} (h : loadS P hp t x = some v) {w : World} (hb : ∀ b ∈ hp, Blk w (β b.l) b.ty (denL ρ β b.cs)) :
    (Instr.loadAt t (x.den ρ β)).run P w = .ok (v.den ρ β) w := by
  unfold loadS at h
  split at h
  · rename_i l off
    split at h
    · rename_i b hf
      have hm := find_mem hf
      have hB := hb b hm.1
      rw [hm.2] at hB
      split at h
      · rename_i d hu
        show (Instr.loadAt t (.pointer (some ⟨β l, off, none⟩))).run P w = _
        split at h
        · rename_i hr
          split at h
          · rename_i i hi
            split at h
            · rename_i hle
              have hle := Nat.le_of_ble_eq_true hle
              injection h with h
              subst h
              refine run_loadAt_mid w (β l) off t _ d ?_ hu (by cases d <;> first | rfl | cases hr) ?_
              · intro j u hj
                rw [hB.cell]
                rw [denL_drop, denL_take, List.getElem?_drop, List.getElem?_take] at hj
                split at hj
                · exact hj
                · cases hj
              · rw [hi, denL_len, List.length_drop, List.length_take]
                simp
                omega
            · cases h
          · cases h
        · rename_i hr
          cases hc : b.cs[off]? with
          | none => rw [hc] at h; cases h
          | some y =>
            rw [hc] at h
            injection h with h
            subst h
            have hcell : w.cell? ⟨β l, off, none⟩ = some (y.den ρ β) := by rw [hB.cell]; simp [denL, hc]
            have ha := run_isAgg hu w
            rw [show rowB d = false from by simpa using hr] at ha
            simp only [Instr.loadAt, Instr.sureAddr, Sem.run_bind, Sem.run_pure, Result.andThen_ok, loadVar, ha]
            show (load ⟨β l, off, none⟩).run P w = _
            unfold load
            simp only [Sem.run, hcell]
            rfl
      · cases h
    · cases h
  · cases h

/-! Stores. -/
section
variable {w w0 : World} {g : Nat} {t : TypeId} {S : Nat → Prop}
theorem setCells_far {cs : List Value} : ∀ (vs : List Value) (o : Nat) {w : World} {g' : Nat}, Blk w g' t cs → g' ≠ g → Blk (w.setCells g o vs) g' t cs
  | [], _, _, _, h, _ => h
  | v :: vs, o, w, g', h, hne => setCells_far vs (o + 1) (h.far (p := ⟨g, o, none⟩) hne v) hne
theorem setCells_same : ∀ (vs : List Value) (o : Nat) {w : World} {cs : List Value}, Blk w g t cs → o + vs.length ≤ cs.length → Blk (w.setCells g o vs) g t (cs.take o ++ (vs ++ cs.drop (o + vs.length)))
  | [], o, w, cs, h, _ => by
    simp only [World.setCells, List.nil_append, List.length_nil, Nat.add_zero, List.take_append_drop]
    exact h
  | v :: vs, o, w, cs, h, hl => by
    simp only [List.length_cons] at hl
    have h1 := setCells_same vs (o + 1) (h.set_ o v) (by simp; omega)
    rw [World.setCells]
    refine h1.cast ?_
    have hlt : o < cs.length := by omega
    rw [List.take_succ_eq_append_getElem (by simpa using hlt), List.take_set_of_le (Nat.le_refl _), List.getElem_set_self, List.append_assoc, List.singleton_append]
    rw [List.drop_set_of_lt (by omega), List.length_cons]
    congr 3
    congr 1
    omega
theorem setCells_only (hg : S g ∨ w0.heap.size ≤ g) : ∀ (vs : List Value) (o : Nat) {w : World}, Only S w0 w → Only S w0 (w.setCells g o vs)
  | [], _, _, h => h
  | v :: vs, o, w, h => setCells_only hg vs (o + 1) (h.setCell (p := ⟨g, o, none⟩) hg v)
end
theorem run_storeVar_any {P : Program} (w : World) (b o : Nat) (ty : TypeId) (v : Value) (ht : w.there b o v.cells.size) (hi : (P.info? ty).map (·.size) = some v.cells.size) (h1 : ∀ u ∈ v.cells.toList, u.oneCell' = true) :
    (Instr.storeAt ty (.pointer (some ⟨b, o, none⟩)) v).run P w = .ok () (w.setCells b o v.cells.toList) := by
  have := run_storeCells_cells (P := P) b o v.cells.toList 0 w (fun j hj => by simpa using (ht j (by simpa using hj)).1) (fun j hj => by simpa using (ht j (by simpa using hj)).2) h1
  cases hq : P.info? ty with
  | none => simp [hq] at hi
  | some i =>
    have hs : v.cells.size = i.size := by simp [hq] at hi; omega
    simp only [Nat.add_zero] at this
    simp [Instr.storeAt, Instr.sureAddr, storeVar, sizeOf, typeInfo, hq, hs, this]
def updHp (l off : Nat) (vs : List C) (hp : List Bk) : List Bk := hp.map fun b => if Nat.beq b.l l then { b with cs := over b.cs off vs } else b
def storeS (P : Program) (hp : List Bk) (t : TypeId) (x v : SV) : Option (List Bk) :=
  match x, v with
  | .one (.c (.ptr l off)), .one v =>
    match find l hp, P.info? t with
    | some b, some i => if b.rw && (Nat.beq v.cs.length i.size && Nat.ble (off + v.cs.length) b.cs.length) then some (updHp l off v.cs hp) else none
    | _, _ => none
  | _, _ => none
theorem updHp_l (l off : Nat) (vs : List C) (b : Bk) : (if Nat.beq b.l l then { b with cs := over b.cs off vs } else b).l = b.l := by split <;> rfl
theorem storeS_ok {ρ : Env} (hρ : ρ.good) {β : Bn} {P : Program} {S : Nat → Prop} {w0 w : World} {β0 : Bn} {n0 : Nat} {s : St} {a : Act} (hM : Md ρ S w0 β0 n0 s β a w) {t : TypeId} {x v : SV} {hp' : List Bk} (h : storeS P s.hp t x v = some hp') :
    ∃ w', (Instr.storeAt t (x.den ρ β) (v.den ρ β)).run P w = .ok () w' ∧ Md ρ S w0 β0 n0 { s with hp := hp' } β a w' := by
  unfold storeS at h
  split at h
  · rename_i l off v
    split at h
    · rename_i b i hf hi
      split at h
      · rename_i q
        simp only [Bool.and_eq_true] at q
        have q1 := Nat.eq_of_beq_eq_true q.2.1
        have q2 := Nat.le_of_ble_eq_true q.2.2
        injection h with h
        subst h
        have hB := hM.find hf
        have hm := find_mem hf
        have hmay := hM.may b hm.1 q.1
        rw [hm.2] at hmay
        have hcl : (v.den ρ β).cells.toList = denL ρ β v.cs := by rw [V1.cells_den hρ]
        have hcs : (v.den ρ β).cells.size = v.cs.length := by rw [V1.cells_den hρ]; simp [denL_len]
        refine ⟨w.setCells (β l) off (denL ρ β v.cs), ?_, ?_⟩
        · have := run_storeVar_any (P := P) w (β l) off t (v.den ρ β) (fun j hj => by
            rw [hcs] at hj
            refine ⟨?_, hB.frozen _⟩
            rw [hB.cell, List.getElem?_eq_getElem (by rw [denL_len]; omega)]
            rfl) (by rw [hcs, hi]; simp; omega) (by rw [hcl]; exact denL_one hρ β _)
          rw [hcl] at this
          exact this
        · refine ⟨hM.act, ?_, ?_, ?_, hM.cx, setCells_only hmay _ _ hM.only, hM.old⟩
          · intro b' hb'
            obtain ⟨b0, hb0, rfl⟩ := List.mem_map.1 hb'
            have hB0 := hM.hp b0 hb0
            split
            · rename_i e
              have e := Nat.eq_of_beq_eq_true e
              dsimp only
              rw [e] at hB0 ⊢
              have hlen : b0.cs.length = b.cs.length := by
                have h1 : w.heap[β l]? = some (.cells (denL ρ β b0.cs).toArray b0.ty (0, 0)) := hB0
                have h2 : w.heap[β l]? = some (.cells (denL ρ β b.cs).toArray b.ty (0, 0)) := hB
                rw [h1] at h2
                injection h2 with h2
                injection h2 with h2
                have h3 := congrArg Array.size h2
                simpa [denL_len] using h3
              have := setCells_same (denL ρ β v.cs) off hB0 (by rw [denL_len, denL_len]; omega)
              refine this.cast ?_
              simp only [over, denL_app, denL_take, denL_drop, denL_len]
            · rename_i e
              refine setCells_far _ _ hB0 ?_
              have hne : b0.l ≠ b.l := by
                rw [hm.2]
                intro e2
                exact e (by rw [e2]; simp)
              have := hM.ne b0 hb0 b hm.1 hne
              rw [hm.2] at this
              exact this
          · intro x hx y hy hne
            obtain ⟨x0, hx0, rfl⟩ := List.mem_map.1 hx
            obtain ⟨y0, hy0, rfl⟩ := List.mem_map.1 hy
            rw [updHp_l, updHp_l] at hne ⊢
            exact hM.ne x0 hx0 y0 hy0 hne
          · intro b' hb'
            obtain ⟨b0, hb0, rfl⟩ := List.mem_map.1 hb'
            have := hM.may b0 hb0
            split <;> exact this
      · cases h
    · cases h
  · cases h

/-! New variables. -/
def insBk (b : Bk) : List Bk → List Bk
  | [] => [b]
  | x :: l => if Nat.ble x.l b.l then b :: x :: l else x :: insBk b l
theorem mem_ins {b x : Bk} : ∀ {l : List Bk}, x ∈ insBk b l → x = b ∨ x ∈ l
  | [], h => by simpa [insBk] using h
  | y :: l, h => by
    unfold insBk at h
    split at h
    · rcases List.mem_cons.1 h with h | h
      · exact .inl h
      · exact .inr h
    · rcases List.mem_cons.1 h with h | h
      · exact .inr (by rw [h]; exact List.mem_cons_self ..)
      · rcases mem_ins h with h | h
        · exact .inl h
        · exact .inr (List.mem_cons_of_mem _ h)
/-- Does the letter stand for nothing yet? -/
def St.free (s : St) (n : Nat) : Bool := (s.tm.all fun x => !x.has n) && s.hp.all fun b => !(Nat.beq b.l n) && !(hasL n b.cs)
/-- The state with a new block. -/
def St.new (s : St) (n : Nat) (t : TypeId) (cs : List C) : St := { s with hp := insBk ⟨n, t, cs, true⟩ s.hp, nx := max s.nx (n + 1) }
theorem Md.new {ρ : Env} {β : Bn} {S : Nat → Prop} {w0 w : World} {β0 : Bn} {n0 : Nat} {s : St} {a : Act} (hM : Md ρ S w0 β0 n0 s β a w) (n : Nat) (hn : n0 ≤ n) (hf : s.free n = true) (t : TypeId) (cs : List C) (hcs : hasL n cs = false) :
    Md ρ S w0 β0 n0 (s.new n t cs) (upd β n w.heap.size) a (w.alloc (.cells (denL ρ β cs).toArray t)) := by
  unfold St.free at hf
  simp only [Bool.and_eq_true, List.all_eq_true, Bool.not_eq_true'] at hf
  have old : ∀ b ∈ s.hp, upd β n w.heap.size b.l = β b.l ∧ denL ρ (upd β n w.heap.size) b.cs = denL ρ β b.cs := fun b hb =>
    ⟨upd_old (beq_ne (hf.2 b hb).1), denL_upd ρ (hf.2 b hb).2⟩
  refine ⟨?_, ?_, ?_, ?_, hM.cx, hM.only.alloc _, ?_⟩
  · rw [hM.act]
    congr 2
    apply List.map_congr_left
    intro x hx
    exact (SV.den_upd ρ (hf.1 x hx)).symm
  · intro b hb
    rcases mem_ins hb with rfl | hb
    · show Blk _ (upd β n w.heap.size n) t (denL ρ (upd β n w.heap.size) cs)
      rw [upd_new, denL_upd ρ hcs]
      exact Blk.new w t (denL ρ β cs)
    · rw [(old b hb).1, (old b hb).2]
      exact (hM.hp b hb).alloc _
  · intro x hx y hy hne
    rcases mem_ins hx with rfl | hx <;> rcases mem_ins hy with rfl | hy
    · exact absurd rfl hne
    · show upd β n w.heap.size n ≠ _
      rw [upd_new, (old y hy).1]
      have := (hM.hp y hy).lt
      omega
    · show _ ≠ upd β n w.heap.size n
      rw [upd_new, (old x hx).1]
      have := (hM.hp x hx).lt
      omega
    · rw [(old x hx).1, (old y hy).1]
      exact hM.ne x hx y hy hne
  · intro b hb hw
    rcases mem_ins hb with rfl | hb
    · refine .inr ?_
      show _ ≤ upd β n w.heap.size n
      rw [upd_new]
      exact hM.only.size
    · rw [(old b hb).1]
      exact hM.may b hb hw
  · intro l hl
    rw [upd_old (by omega)]
    exact hM.old l hl
def zeroS (P : Program) (t : TypeId) : Option (List C) :=
  match P.info? t with
  | some i => match i.zero with
    | some z => ofCs z.cells.toList
    | none => none
  | none => none
theorem zeroS_ok {ρ : Env} {β : Bn} {P : Program} {t : TypeId} {cs : List C} (h : zeroS P t = some cs) (w : World) : (Instr.alloc t true (.tuple #[])).run P w = .ok (.pointer (some ⟨w.heap.size, 0, none⟩)) (w.alloc (.cells (denL ρ β cs).toArray t)) := by
  unfold zeroS at h
  split at h
  · rename_i i hi
    split at h
    · rename_i z hz
      rw [ofCs_ok (ρ := ρ) (β := β) h]
      simp only [Instr.alloc, zeroValue, typeInfo, Sem.run_bind, run_program, Result.andThen_ok, hi, hz, Sem.run_pure, newVar, newRow]
      rw [show z.cells.toList.toArray = z.cells from by simp]
      rfl
    · cases h
  · cases h
theorem box_ok {ρ : Env} (hρ : ρ.good) {β : Bn} {P : Program} {t : TypeId} (v : V1) (w : World) : (Instr.box t (v.den ρ β)).run P w = .ok (.pointer (some ⟨w.heap.size, 0, none⟩)) (w.alloc (.cells (denL ρ β v.cs).toArray t)) := by
  have h := V1.cells_den hρ β v
  simp only [Instr.box, newVar, newRow, h]
  rfl
end Sy
end Go.Proofs.Ythjigajielhkfaa
