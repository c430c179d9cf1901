/- Loads, stores, new variables, with letters. -/
import Derived.Test.YtnmfmjlpfhdgeaaSyG
namespace Go.Proofs.Ytnmfmjlpfhdgeaa
namespace Sy
open Go Go.RowKit
set_option linter.unusedVariables false
set_option linter.unusedSimpArgs false

def loadS (P : Program) (c : Cx) (hp : List Bk) (t : TypeId) (x : SV) : Option V1 :=
  match x with
  | .one (.c (.ptr l off)) =>
    match find l hp with
    | some b =>
      match b.str with
      | none =>
        if b.x.isNo then
        match P.underlying t with
        | some d =>
          if rowB d then
            match P.info? t with
            | some i => if Nat.ble (off + i.size) b.cs.length then some (.agg ((b.cs.take (off + i.size)).drop off)) else none
            | none => none
          else (b.cs[off]?).map .c
        | none => none
        else none
      | some s =>
        match P.underlying t with
        | some (.int .u8) => if sure c (.lt (.il off) (mkLen c s)) then some (.c (.int .u8 (mkByte c s (.il off)))) else none
        | _ => none
    | none => none
  | .one (.c (.ptx l off)) =>
    match find l hp with
    | some b =>
      match b.str with
      | some s =>
        match P.underlying t with
        | some (.int .u8) => if sure c (.le (.il 0) off) && sure c (.lt off (mkLen c s)) then some (.c (.int .u8 (mkByte c s off))) else none
        | _ => none
      | none => none
    | none => none
  | _ => none
/-- A byte of a row. -/
theorem RowB.cell {w : World} {g c : Nat} {ty : TypeId} {own : Bool} {l : List UInt8} (h : RowB w g c ty own l) {j : Nat} (hj : j < l.length) : w.cell? ⟨g, j, none⟩ = some (.int .u8 (l[j].toNat : Int)) ∧ w.frozen? ⟨g, j, none⟩ = false := by
  have hlen := h.len
  obtain ⟨cur, fr, h1, hf, h2, h3, h4⟩ := h.row (by omega)
  constructor
  · have h5 : (cur.toList.take l.length)[j]? = (cells8' l)[j]? := by rw [h4]
    rw [List.getElem?_take, if_pos hj] at h5
    have h6 : w.cell? ⟨g, j, none⟩ = cur[j]? := by simp [World.cell?, h1]
    rw [h6, ← Array.getElem?_toList, h5]
    simp [cells8', hj]
  · simp only [World.frozen?, h1]
    rcases hf with rfl | ⟨_, hf⟩
    · simp
    · simp only [Bool.and_eq_false_iff, decide_eq_false_iff_not]
      exact .inl (by omega)
theorem run_load1 {P : Program} {t : TypeId} {d : TypeDesc} (hu : P.underlying t = some d) (hr : rowB d = false) {w : World} {g o : Nat} {v : Value} (h : w.cell? ⟨g, o, none⟩ = some v) : (Instr.loadAt t (.pointer (some ⟨g, o, none⟩))).run P w = .ok v w := by
  have ha := run_isAgg hu w
  rw [hr] at ha
  simp only [Instr.loadAt, Instr.sureAddr, Sem.run_bind, Sem.run_pure, Result.andThen_ok, loadVar, ha]
  show (load ⟨g, o, none⟩).run P w = _
  unfold load
  simp only [Sem.run, h]
theorem loadS_ok {ρ : Env} {β : Bn} {P : Program} {c : Cx} (hc : c.ok ρ) {hp : List Bk} {t : TypeId} {x : SV} {v : V1} (h : loadS P c hp t x = some v) {w : World} (hb : ∀ b ∈ hp, BkOk ρ β w b) :
    (Instr.loadAt t (x.den ρ β)).run P w = .ok (v.den ρ β) w := by
  unfold loadS at h
  split at h
  · rename_i l off
    split at h
    · rename_i b hf
      have hm := find_mem hf
      have hB0 := hb b hm.1
      unfold BkOk at hB0
      split at h
      · rename_i hs
        rw [hs] at hB0
        split at h
        case isFalse => cases h
        rename_i hno
        rw [Xt.isNo_eq hno] at hB0
        have hB : Blk w (β b.l) b.ty (denL ρ β b.cs) := hB0
        rw [hm.2] at hB
        split at h
        · rename_i d hu
          show (Instr.loadAt t (.pointer (some ⟨β l, off, none⟩))).run P w = _
          split at h
          · rename_i hr
            split at h
            · rename_i i hi
              split at h
              · rename_i hle
                have hle := Nat.le_of_ble_eq_true hle
                injection h with h
                subst h
                refine run_loadAt_mid w (β l) off t _ d ?_ hu (by cases d <;> first | rfl | cases hr) ?_
                · intro j u hj
                  rw [hB.cell]
                  rw [denL_drop, denL_take, List.getElem?_drop, List.getElem?_take] at hj
                  split at hj
                  · exact hj
                  · cases hj
                · rw [hi, denL_len, List.length_drop, List.length_take]
                  simp
                  omega
              · cases h
            · cases h
          · rename_i hr
            cases hcs : b.cs[off]? with
            | none => rw [hcs] at h; cases h
            | some y =>
              rw [hcs] at h
              injection h with h
              subst h
              exact run_load1 hu (by simpa using hr) (by rw [hB.cell]; simp [denL, hcs]; rfl)
        · cases h
      · rename_i s hs
        rw [hs] at hB0
        have hB : RowB w (β b.l) (β (b.l + 1)) b.ty b.cs.isEmpty (Sy.den ρ s).s.data.toList := hB0
        rw [hm.2] at hB
        split at h
        · rename_i hu
          split at h
          · rename_i q
            injection h with h
            subst h
            have q := lt_of (sure_ok hc q)
            rw [mkLen_ok hc] at q
            change (off : Int) < _ at q
            have hlt : off < (Sy.den ρ s).s.data.toList.length := by simp; omega
            show (Instr.loadAt t (.pointer (some ⟨β l, off, none⟩))).run P w = .ok (.int .u8 _) w
            rw [run_load1 hu rfl (hB.cell hlt).1]
            refine res_int ?_
            rw [mkByte_ok hc]
            show byteOf _ ((off : Nat) : Int) = _
            unfold byteOf
            rw [Int.toNat_natCast, List.getD, List.getElem?_eq_getElem hlt]
            rfl
          · cases h
        · cases h
    · cases h
  · rename_i l off
    split at h
    · rename_i b hf
      have hm := find_mem hf
      have hB0 := hb b hm.1
      unfold BkOk at hB0
      split at h
      · rename_i s hs
        rw [hs] at hB0
        have hB : RowB w (β b.l) (β (b.l + 1)) b.ty b.cs.isEmpty (Sy.den ρ s).s.data.toList := hB0
        rw [hm.2] at hB
        split at h
        · rename_i hu
          split at h
          · rename_i q
            injection h with h
            subst h
            simp only [Bool.and_eq_true] at q
            have q0 := le_of (sure_ok hc q.1)
            have q := lt_of (sure_ok hc q.2)
            rw [mkLen_ok hc] at q
            change (0 : Int) ≤ _ at q0
            have hlt : (Sy.den ρ off).i.toNat < (Sy.den ρ s).s.data.toList.length := by simp; omega
            show (Instr.loadAt t (.pointer (some ⟨β l, (Sy.den ρ off).i.toNat, none⟩))).run P w = .ok (.int .u8 _) w
            rw [run_load1 hu rfl (hB.cell hlt).1]
            refine res_int ?_
            rw [mkByte_ok hc]
            unfold byteOf
            rw [List.getD, List.getElem?_eq_getElem hlt]
            rfl
          · cases h
        · cases h
      · cases h
    · cases h
  · cases h

/-! Stores. -/
section
variable {w w0 : World} {g : Nat} {t : TypeId} {S : Nat → Prop}
theorem setCells_far {cs : List Value} : ∀ (vs : List Value) (o : Nat) {w : World} {g' : Nat}, Blk w g' t cs → g' ≠ g → Blk (w.setCells g o vs) g' t cs
  | [], _, _, _, h, _ => h
  | v :: vs, o, w, g', h, hne => setCells_far vs (o + 1) (h.far (p := ⟨g, o, none⟩) hne v) hne
theorem setCells_same : ∀ (vs : List Value) (o : Nat) {w : World} {cs : List Value}, Blk w g t cs → o + vs.length ≤ cs.length → Blk (w.setCells g o vs) g t (cs.take o ++ (vs ++ cs.drop (o + vs.length)))
  | [], o, w, cs, h, _ => by
    simp only [World.setCells, List.nil_append, List.length_nil, Nat.add_zero, List.take_append_drop]
    exact h
  | v :: vs, o, w, cs, h, hl => by
    simp only [List.length_cons] at hl
    have h1 := setCells_same vs (o + 1) (h.set_ o v) (by simp; omega)
    rw [World.setCells]
    refine h1.cast ?_
    have hlt : o < cs.length := by omega
    rw [List.take_succ_eq_append_getElem (by simpa using hlt), List.take_set_of_le (Nat.le_refl _), List.getElem_set_self, List.append_assoc, List.singleton_append]
    rw [List.drop_set_of_lt (by omega), List.length_cons]
    congr 3
    congr 1
    omega
theorem setCells_only (hg : S g ∨ w0.heap.size ≤ g) : ∀ (vs : List Value) (o : Nat) {w : World}, Only S w0 w → Only S w0 (w.setCells g o vs)
  | [], _, _, h => h
  | v :: vs, o, w, h => setCells_only hg vs (o + 1) (h.setCell (p := ⟨g, o, none⟩) hg v)
end
theorem run_storeVar_any {P : Program} (w : World) (b o : Nat) (ty : TypeId) (v : Value) (ht : w.there b o v.cells.size) (hi : (P.info? ty).map (·.size) = some v.cells.size) (h1 : ∀ u ∈ v.cells.toList, u.oneCell' = true) :
    (Instr.storeAt ty (.pointer (some ⟨b, o, none⟩)) v).run P w = .ok () (w.setCells b o v.cells.toList) := by
  have := run_storeCells_cells (P := P) b o v.cells.toList 0 w (fun j hj => by simpa using (ht j (by simpa using hj)).1) (fun j hj => by simpa using (ht j (by simpa using hj)).2) h1
  cases hq : P.info? ty with
  | none => simp [hq] at hi
  | some i =>
    have hs : v.cells.size = i.size := by simp [hq] at hi; omega
    simp only [Nat.add_zero] at this
    simp [Instr.storeAt, Instr.sureAddr, storeVar, sizeOf, typeInfo, hq, hs, this]
/-- A block told anew. -/
def replHp (nb : Bk) (hp : List Bk) : List Bk := hp.map fun b => if Nat.beq b.l nb.l then nb else b
theorem repl_mem {nb x : Bk} {hp : List Bk} (h : x ∈ replHp nb hp) : x = nb ∨ (x ∈ hp ∧ x.l ≠ nb.l) := by
  obtain ⟨b, hb, e⟩ := List.mem_map.1 h
  by_cases q : b.l = nb.l
  · rw [if_pos (by rw [q]; exact Nat.beq_refl _)] at e
    exact .inl e.symm
  · rw [if_neg (fun h => q (Nat.eq_of_beq_eq_true h))] at e
    subst e
    exact .inr ⟨hb, q⟩
theorem Md.repl {ρ : Env} {β : Bn} {S : Nat → Prop} {w0 w w' : World} {β0 : Bn} {n0 : Nat} {s : St} {a : Act} (hM : Md ρ S w0 β0 n0 s β a w) {b nb : Bk} (hb : b ∈ s.hp) (hl : b.l = nb.l) (hr : nb.real β → b.real β) (hrw : nb.rw = true → b.rw = true)
    (ho : Only S w0 w') (hnb : BkOk ρ β w' nb) (hoth : ∀ x ∈ s.hp, x.l ≠ nb.l → BkOk ρ β w' x) (hown : nb.own = true → b.own = true ∧ nb.cs = b.cs := by first | exact fun h => ⟨h, rfl⟩ | exact fun h => (by cases h) | (intro h; unfold Bk.own at h; simp_all [Xt.isOwn]; done)) : Md ρ S w0 β0 n0 { s with hp := replHp nb s.hp } β a w' := by
  have hfp : ∀ g, fp β nb g → fp β b g := fun g hg => by
    unfold fp at hg ⊢
    rw [hl]
    exact hg.imp id fun q => ⟨(hown q.1).1, by rw [← (hown q.1).2]; exact q.2⟩
  refine ⟨hM.act, ?_, ?_, ?_, hM.cx, ho, hM.old⟩
  · intro x hx
    rcases repl_mem hx with rfl | ⟨hx, hne⟩
    · exact hnb
    · exact hoth x hx hne
  · intro x hx y hy hne hrx hry
    rcases repl_mem hx with ex | ⟨hx', hnx⟩ <;> rcases repl_mem hy with ey | ⟨hy', hny⟩
    · exact absurd (by rw [ex, ey]) hne
    · rw [ex] at hne hrx ⊢
      have := hM.ne b hb y hy' (by rw [hl]; exact hne) (hr hrx) hry
      exact fun g hx => this g (hfp g hx)
    · rw [ey] at hne hry ⊢
      have := hM.ne x hx' b hb (by rw [hl]; exact hne) hrx (hr hry)
      exact fun g hx hy => this g hx (hfp g hy)
    · exact hM.ne x hx' y hy' hne hrx hry
  · intro x hx hw hrx g hg
    rcases repl_mem hx with rfl | ⟨hx, _⟩
    · exact hM.may b hb (hrw hw) (hr hrx) g (hfp g hg)
    · exact hM.may x hx hw hrx g hg
/-- What a store into block g leaves of the others. -/
theorem Md.others {ρ : Env} {β : Bn} {S : Nat → Prop} {w0 w w' : World} {β0 : Bn} {n0 : Nat} {s : St} {a : Act} (hM : Md ρ S w0 β0 n0 s β a w) {b : Bk} (hb : b ∈ s.hp) (hr : b.real β) (hk : ∀ g, g ≠ β b.l → w'.heap[g]? = w.heap[g]?) : ∀ x ∈ s.hp, x.l ≠ b.l → BkOk ρ β w' x :=
  fun x hx hne => (hM.hp x hx).keep fun hrx g hg _ => hk _ fun e => hM.ne x hx b hb hne hrx hr g hg (e ▸ fp_root β b)
theorem setCells_heap {w : World} {g k : Nat} (h : k ≠ g) : ∀ (vs : List Value) (o : Nat) (w : World), (w.setCells g o vs).heap[k]? = w.heap[k]?
  | [], _, _ => rfl
  | v :: vs, o, w => (setCells_heap (w := w) h vs (o + 1) _).trans (Below.heap_setCell w ⟨g, o, none⟩ v _ h)
def mkChr (x : Tm) : Tm :=
  match isLit x with
  | some n => .sl [UInt8.ofNat n.toNat]
  | none => .chr x
/-- One byte of a string set. -/
def setB (c : Cx) (s : Tm) (i : Nat) (x : Tm) : Option Tm :=
  match s with
  | .app (.chr y) t => if Nat.beq i 0 then some (mkApp (mkChr x) t) else (setB c t (i - 1) x).map fun t => mkApp (.chr y) t
  | .chr y => if Nat.beq i 0 then some (mkChr x) else none
  | .app s t => match isLit (mkLen c s) with
    | some n => if Nat.blt i n.toNat then (setB c s i x).map fun s => mkApp s t else (setB c t (i - n.toNat) x).map fun t => mkApp s t
    | none => none
  | s => if sure c (.lt (.il i) (mkLen c s)) then some (mkApp (mkCut c s (.il 0) (.il i)) (mkApp (mkChr x) (mkCut c s (.il (i + 1)) (mkLen c s)))) else none
def storeS (P : Program) (c : Cx) (hp : List Bk) (t : TypeId) (x v : SV) : Option (List Bk) :=
  match x, v with
  | .one (.c (.ptr l off)), .one v =>
    match find l hp, P.info? t with
    | some b, some i =>
      match b.str with
      | none => if b.rw && (Nat.beq v.cs.length i.size && (Nat.ble (off + v.cs.length) b.cs.length && b.x.isNo)) then some (replHp { b with cs := over b.cs off v.cs } hp) else none
      | some s =>
        match v with
        | .c (.int .u8 x) =>
          if b.rw && (Nat.beq i.size 1 && (sure c (.le (.il 0) x) && (sure c (.le x (.il 255)) && sure c (.lt (.il off) (mkLen c s))))) then
            match setB c s off x with
            | some s' => some (replHp { b with str := some s' } hp)
            | none => none
          else none
        | _ => none
    | _, _ => none
  | _, _ => none
theorem chr_data {n : Int} (h0 : 0 ≤ n) (h1 : n ≤ 255) : (chrOf n).data.toList = [UInt8.ofNat n.toNat] := by
  unfold chrOf
  rw [Int.emod_eq_of_lt h0 (by omega)]
theorem set_split {α : Type} (l : List α) (i : Nat) (x : α) (h : i < l.length) : l.set i x = l.take i ++ ([x] ++ l.drop (i + 1)) := by
  rw [List.set_eq_take_append_cons_drop, if_pos h]
  rfl
theorem cut_head {ρ : Env} {c : Cx} (hc : c.ok ρ) (s : Tm) (i : Nat) : (den ρ (mkCut c s (.il 0) (.il i))).s.data.toList = (den ρ s).s.data.toList.take i := by
  rw [mkCut_ok hc]
  show ((den ρ s).s.extract 0 ((i : Int)).toNat).data.toList = _
  rw [Int.toNat_natCast]
  simp [ByteArray.data_extract]
theorem cut_tail {ρ : Env} {c : Cx} (hc : c.ok ρ) (s : Tm) (i : Nat) : (den ρ (mkCut c s (.il (i + 1)) (mkLen c s))).s.data.toList = (den ρ s).s.data.toList.drop (i + 1) := by
  rw [mkCut_ok hc]
  show ((den ρ s).s.extract (((i : Int) + 1)).toNat (den ρ (mkLen c s)).i.toNat).data.toList = _
  rw [mkLen_ok hc, show ((i : Int) + 1).toNat = i + 1 from by omega, Int.toNat_natCast]
  simp only [ByteArray.data_extract, Array.toList_extract, List.extract_eq_take_drop]
  rw [List.take_of_length_le (by simp)]
theorem setB_ok {ρ : Env} {c : Cx} (hc : c.ok ρ) {x : Tm} (h0 : 0 ≤ (den ρ x).i) (h1 : (den ρ x).i ≤ 255) : ∀ {s s' : Tm} {i : Nat}, setB c s i x = some s' → i < (den ρ s).s.data.toList.length →
    (den ρ s').s.data.toList = (den ρ s).s.data.toList.set i (UInt8.ofNat (den ρ x).i.toNat) := by
  have app : ∀ a b : Tm, (den ρ (.app a b)).s.data.toList = (den ρ a).s.data.toList ++ (den ρ b).s.data.toList := fun a b => by
    show ((den ρ a).s ++ (den ρ b).s).data.toList = _
    simp
  have mapp : ∀ a b : Tm, (den ρ (mkApp a b)).s.data.toList = (den ρ a).s.data.toList ++ (den ρ b).s.data.toList := fun a b => by
    rw [mkApp_ok]
    simp
  have len : ∀ a : Tm, (mkLen c a |> den ρ).i = ((den ρ a).s.data.toList.length : Int) := fun a => by rw [mkLen_ok hc]; simp
  have chr : (den ρ (mkChr x)).s.data.toList = [UInt8.ofNat (den ρ x).i.toNat] := by
    unfold mkChr
    split
    · rename_i n hn
      rw [isLit_eq hn]
      rfl
    · exact chr_data h0 h1
  have chr1 : ∀ y : Tm, (den ρ (.chr y)).s.data.toList.length = 1 := fun y => rfl
  intro s
  induction s with
  | app a b iha ihb =>
    intro s' i h hi
    rw [app] at hi ⊢
    rw [List.length_append] at hi
    have gen : (match isLit (mkLen c a) with
        | some n => if Nat.blt i n.toNat then (setB c a i x).map fun s => mkApp s b else (setB c b (i - n.toNat) x).map fun t => mkApp a t
        | none => none) = some s' → (den ρ s').s.data.toList = ((den ρ a).s.data.toList ++ (den ρ b).s.data.toList).set i (UInt8.ofNat (den ρ x).i.toNat) := by
      intro h
      split at h
      · rename_i n hn
        have hln := len a
        rw [isLit_eq hn] at hln
        change n = _ at hln
        split at h
        · rename_i q
          have q : i < n.toNat := Nat.le_of_ble_eq_true q
          cases hq : setB c a i x with
          | none => rw [hq] at h; cases h
          | some a' =>
            rw [hq] at h
            injection h with h
            subst h
            rw [mapp, iha hq (by omega), List.set_append_left _ _ (by omega)]
        · rename_i q
          have q : ¬ i < n.toNat := fun e => q (Nat.ble_eq_true_of_le e)
          cases hq : setB c b (i - n.toNat) x with
          | none => rw [hq] at h; cases h
          | some b' =>
            rw [hq] at h
            injection h with h
            subst h
            rw [mapp, ihb hq (by omega), List.set_append_right _ _ (by omega)]
            congr 2
            omega
      · cases h
    cases a with
    | chr y =>
      simp only [setB] at h
      split at h
      · rename_i q
        have q := Nat.eq_of_beq_eq_true q
        subst q
        injection h with h
        subst h
        rw [mapp, chr]
        rfl
      · rename_i q
        have q : i ≠ 0 := fun e => q (by rw [e]; rfl)
        cases hq : setB c b (i - 1) x with
        | none => rw [hq] at h; cases h
        | some b' =>
          rw [hq] at h
          injection h with h
          subst h
          rw [chr1] at hi
          rw [mapp, ihb hq (by omega), List.set_append_right _ _ (by rw [chr1]; omega), chr1]
    | _ => exact gen h
  | chr y _ =>
    intro s' i h hi
    simp only [setB] at h
    split at h
    · rename_i q
      have q := Nat.eq_of_beq_eq_true q
      subst q
      injection h with h
      subst h
      rw [chr]
      rfl
    · cases h
  | _ =>
    intro s' i h hi
    simp only [setB] at h
    split at h
    · injection h with h
      subst h
      rw [mapp, mapp, chr, cut_head hc, cut_tail hc, set_split _ _ _ hi]
    · cases h
theorem storeS_ok {ρ : Env} (hρ : ρ.good) {β : Bn} {P : Program} {S : Nat → Prop} {w0 w : World} {β0 : Bn} {n0 : Nat} {s : St} {a : Act} (hM : Md ρ S w0 β0 n0 s β a w) {t : TypeId} {x v : SV} {hp' : List Bk} (h : storeS P s.cx s.hp t x v = some hp') :
    ∃ w', (Instr.storeAt t (x.den ρ β) (v.den ρ β)).run P w = .ok () w' ∧ Md ρ S w0 β0 n0 { s with hp := hp' } β a w' := by
  unfold storeS at h
  split at h
  · rename_i l off v
    split at h
    · rename_i b i hf hi
      have hm := find_mem hf
      have hB0 := hM.hp b hm.1
      have hcl : (v.den ρ β).cells.toList = denL ρ β v.cs := by rw [V1.cells_den hρ]
      have hcs : (v.den ρ β).cells.size = v.cs.length := by rw [V1.cells_den hρ]; simp [denL_len]
      split at h
      · rename_i hs
        unfold BkOk at hB0
        rw [hs] at hB0
        split at h
        · rename_i q
          simp only [Bool.and_eq_true] at q
          have q1 := Nat.eq_of_beq_eq_true q.2.1
          have q2 := Nat.le_of_ble_eq_true q.2.2.1
          have hno := Xt.isNo_eq q.2.2.2
          rw [hno] at hB0
          have hB : Blk w (β b.l) b.ty (denL ρ β b.cs) := hB0
          have hreal : b.real β := Bk.fixed hs hno β
          injection h with h
          subst h
          have hmay := hM.may0 b hm.1 q.1 hreal
          refine ⟨w.setCells (β b.l) off (denL ρ β v.cs), ?_, ?_⟩
          · have := run_storeVar_any (P := P) w (β b.l) off t (v.den ρ β) (fun j hj => by
              rw [hcs] at hj
              refine ⟨?_, hB.frozen _⟩
              rw [hB.cell, List.getElem?_eq_getElem (by rw [denL_len]; omega)]
              rfl) (by rw [hcs, hi]; simp; omega) (by rw [hcl]; exact denL_one hρ β _)
            rw [hcl] at this
            rw [← hm.2]
            exact this
          · refine hM.repl (b := b) hm.1 rfl (fun _ => hreal) (fun h => h) (setCells_only hmay _ _ hM.only) ?_ ?_
            · unfold BkOk
              rw [hs, hno]
              have := setCells_same (denL ρ β v.cs) off hB (by rw [denL_len, denL_len]; omega)
              refine this.cast ?_
              simp only [over, denL_app, denL_take, denL_drop, denL_len]
            · exact fun x hx hne => hM.others (b := b) hm.1 hreal (fun g hg => setCells_heap (w := w) hg _ _ _) x hx hne
        · cases h
      · rename_i str hs
        split at h
        · rename_i x
          split at h
          · rename_i q
            simp only [Bool.and_eq_true] at q
            split at h
            · rename_i s' hset
              injection h with h
              subst h
              have x0 := le_of (sure_ok hM.cx q.2.2.1)
              have x1 := le_of (sure_ok hM.cx q.2.2.2.1)
              have xl := lt_of (sure_ok hM.cx q.2.2.2.2)
              rw [mkLen_ok hM.cx] at xl
              change (0 : Int) ≤ _ at x0
              change _ ≤ (255 : Int) at x1
              change (off : Int) < _ at xl
              unfold BkOk at hB0
              rw [hs] at hB0
              have hB : RowB w (β b.l) (β (b.l + 1)) b.ty b.cs.isEmpty (den ρ str).s.data.toList := hB0
              have hlt : off < (den ρ str).s.data.toList.length := by simp; omega
              have hcap := hB.len
              have hreal : b.real β := .inr (by omega)
              have hmay := hM.may0 b hm.1 q.1 hreal
              have hcell := hB.cell hlt
              refine ⟨w.setCells (β b.l) off [.int .u8 (den ρ x).i], ?_, ?_⟩
              · have := run_storeVar_any (P := P) w (β b.l) off t (.int .u8 (den ρ x).i) (fun j hj => by
                  have hj0 : j = 0 := by
                    have : j < 1 := hj
                    omega
                  subst hj0
                  exact ⟨by rw [Nat.add_zero, hcell.1]; rfl, hcell.2⟩) (by rw [hi]; show some i.size = some 1; rw [Nat.eq_of_beq_eq_true q.2.1]) (fun u hu => by
                  have : u = .int .u8 (den ρ x).i := by simpa [Value.cells] using hu
                  rw [this]; rfl)
                rw [← hm.2]
                exact this
              · refine hM.repl (b := b) hm.1 rfl (fun _ => hreal) (fun h => h) (setCells_only hmay _ _ hM.only) ?_ ?_
                · have hset' := setB_ok hM.cx x0 x1 hset hlt
                  refine ⟨fun _ => ?_, by show (den ρ s').s.data.toList.length ≤ _; rw [hset', List.length_set]; exact hcap⟩
                  obtain ⟨cur, fr, h1, hfr, h2, h3, h4⟩ := hB.row (by omega)
                  have hst : (w.setCells (β b.l) off [.int .u8 (den ρ x).i]).heap[β b.l]? = some (.cells (cur.setIfInBounds off (.int .u8 (den ρ x).i)) b.ty fr) := by
                    show (w.setCell ⟨β b.l, off, none⟩ (.int .u8 (den ρ x).i)).heap[β b.l]? = _
                    simp [World.setCell, Array.getElem?_modify, h1]
                  refine ⟨cur.setIfInBounds off (.int .u8 (den ρ x).i), fr, hst, hfr, by simp [h2], h3, ?_⟩
                  show List.take (den ρ s').s.data.toList.length _ = cells8' (den ρ s').s.data.toList
                  rw [hset', List.length_set]
                  rw [Array.toList_setIfInBounds, List.take_set, h4]
                  unfold cells8'
                  rw [List.map_set]
                  congr 2
                  have : ((UInt8.ofNat (den ρ x).i.toNat).toNat : Int) = (den ρ x).i := by
                    rw [UInt8.toNat_ofNat']
                    omega
                  rw [this]
                · exact fun x hx hne => hM.others (b := b) hm.1 hreal (fun g hg => setCells_heap (w := w) hg _ _ _) x hx hne
            · cases h
          · cases h
        · cases h
    · cases h
  · cases h

/-! New variables. -/
def insBk (b : Bk) : List Bk → List Bk
  | [] => [b]
  | x :: l => if Nat.ble x.l b.l then b :: x :: l else x :: insBk b l
theorem mem_ins {b x : Bk} : ∀ {l : List Bk}, x ∈ insBk b l → x = b ∨ x ∈ l
  | [], h => by simpa [insBk] using h
  | y :: l, h => by
    unfold insBk at h
    split at h
    · rcases List.mem_cons.1 h with h | h
      · exact .inl h
      · exact .inr h
    · rcases List.mem_cons.1 h with h | h
      · exact .inr (by rw [h]; exact List.mem_cons_self ..)
      · rcases mem_ins h with h | h
        · exact .inl h
        · exact .inr (List.mem_cons_of_mem _ h)
/-- Does the letter stand for nothing yet? -/
def St.free (s : St) (n : Nat) : Bool := (s.tm.all fun x => !x.has n) && s.hp.all fun b => !(Nat.beq b.l n) && (!(hasL n b.cs) && !(Nat.beq (b.l + 1) n))
/-- The state with a new block. -/
def St.new (s : St) (n : Nat) (t : TypeId) (cs : List C) : St := { s with hp := insBk ⟨n, t, cs, true, none, .no⟩ s.hp, nx := max s.nx (n + 2) }
theorem Md.new {ρ : Env} {β : Bn} {S : Nat → Prop} {w0 w : World} {β0 : Bn} {n0 : Nat} {s : St} {a : Act} (hM : Md ρ S w0 β0 n0 s β a w) (n : Nat) (hn : n0 ≤ n) (hf : s.free n = true) (t : TypeId) (cs : List C) (hcs : hasL n cs = false) :
    Md ρ S w0 β0 n0 (s.new n t cs) (upd β n w.heap.size) a (w.alloc (.cells (denL ρ β cs).toArray t)) := by
  unfold St.free at hf
  simp only [Bool.and_eq_true, List.all_eq_true, Bool.not_eq_true'] at hf
  have old : ∀ b ∈ s.hp, upd β n w.heap.size b.l = β b.l ∧ upd β n w.heap.size (b.l + 1) = β (b.l + 1) ∧ denL ρ (upd β n w.heap.size) b.cs = denL ρ β b.cs := fun b hb =>
    ⟨upd_old (beq_ne (hf.2 b hb).1), upd_old (beq_ne (hf.2 b hb).2.2), denL_upd ρ (hf.2 b hb).2.1⟩
  have oldr : ∀ b ∈ s.hp, b.real (upd β n w.heap.size) → b.real β := fun b hb hr => hr.imp id (fun h => by rw [← (old b hb).2.1]; exact h)
  refine ⟨?_, ?_, ?_, ?_, hM.cx, hM.only.alloc _, ?_⟩
  · rw [hM.act]
    congr 2
    apply List.map_congr_left
    intro x hx
    exact (SV.den_upd ρ (hf.1 x hx)).symm
  · intro b hb
    rcases mem_ins hb with rfl | hb
    · show Blk _ (upd β n w.heap.size n) t (denL ρ (upd β n w.heap.size) cs)
      rw [upd_new, denL_upd ρ hcs]
      exact Blk.new w t (denL ρ β cs)
    · exact BkOk.agree ((hM.hp b hb).alloc _) (old b hb).1 (fun _ => (old b hb).2.1) (old b hb).2.2
  · intro x hx y hy hne hrx hry
    rcases mem_ins hx with rfl | hx <;> rcases mem_ins hy with rfl | hy
    · exact absurd rfl hne
    · intro g gx gy
      have e : g = upd β n w.heap.size n := fp_one rfl gx
      rw [upd_new] at e
      have := (hM.hp y hy).fplt (oldr y hy hry) ((fp_agree (old y hy).1 (old y hy).2.2 g).1 gy)
      omega
    · intro g gx gy
      have e : g = upd β n w.heap.size n := fp_one rfl gy
      rw [upd_new] at e
      have := (hM.hp x hx).fplt (oldr x hx hrx) ((fp_agree (old x hx).1 (old x hx).2.2 g).1 gx)
      omega
    · exact (hM.ne x hx y hy hne (oldr x hx hrx) (oldr y hy hry)).agree (old x hx).1 (old x hx).2.2 (old y hy).1 (old y hy).2.2
  · intro b hb hw hr g hg
    rcases mem_ins hb with rfl | hb
    · refine .inr ?_
      have e : g = upd β n w.heap.size n := fp_one rfl hg
      rw [e, upd_new]
      exact hM.only.size
    · exact hM.may b hb hw (oldr b hb hr) g ((fp_agree (old b hb).1 (old b hb).2.2 g).1 hg)
  · intro l hl
    rw [upd_old (by omega)]
    exact hM.old l hl
def zeroS (P : Program) (t : TypeId) : Option (List C) :=
  match P.info? t with
  | some i => match i.zero with
    | some z => ofCs z.cells.toList
    | none => none
  | none => none
theorem zeroS_ok {ρ : Env} {β : Bn} {P : Program} {t : TypeId} {cs : List C} (h : zeroS P t = some cs) (w : World) : (Instr.alloc t true (.tuple #[])).run P w = .ok (.pointer (some ⟨w.heap.size, 0, none⟩)) (w.alloc (.cells (denL ρ β cs).toArray t)) := by
  unfold zeroS at h
  split at h
  · rename_i i hi
    split at h
    · rename_i z hz
      rw [ofCs_ok (ρ := ρ) (β := β) h]
      simp only [Instr.alloc, zeroValue, typeInfo, Sem.run_bind, run_program, Result.andThen_ok, hi, hz, Sem.run_pure, newVar, newRow]
      rw [show z.cells.toList.toArray = z.cells from by simp]
      rfl
    · cases h
  · cases h
theorem box_ok {ρ : Env} (hρ : ρ.good) {β : Bn} {P : Program} {t : TypeId} (v : V1) (w : World) : (Instr.box t (v.den ρ β)).run P w = .ok (.pointer (some ⟨w.heap.size, 0, none⟩)) (w.alloc (.cells (denL ρ β v.cs).toArray t)) := by
  have h := V1.cells_den hρ β v
  simp only [Instr.box, newVar, newRow, h]
  rfl
end Sy
end Go.Proofs.Ytnmfmjlpfhdgeaa
