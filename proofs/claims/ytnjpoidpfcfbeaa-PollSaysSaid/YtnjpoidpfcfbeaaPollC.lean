/- The poller's Drop. -/
import Derived.Test.YtnjpoidpfcfbeaaPollB
import Derived.Shelf.SlicesE.Delete
import Derived.Ground.SlgnProg
import Derived.Lib.RowBridge
namespace Go.Proofs
open Go.Shelf Go.RowKit Go.Lib
shelf_lay_g SlLaysE.n45 Slgn 45 at Try 75 as Try.pollDl
end Go.Proofs
namespace Go.Proofs.Ytnjpoidpfcfbeaa
open Go.RowKit Sy Go.Lib Go.Sort
set_option linter.unusedVariables false
set_option linter.unusedSimpArgs false

def tabC (c : Cx) (hp : List Bk) (ty : TypeId) (lv : List Kd) : C → Option (List Tm × Nat × Tm)
  | .slt l m off len an => match find l hp with
    | some b => match b.str, b.x with
      | none, .tab lv' t => if Nat.beq b.ty ty && (sameLv lv lv' && (Nat.beq m lv.length && (same off (.il 0) && same an (.il 0)))) then some (need c (.le len (mkTL c t)) ++ need c (.le (mkTL c t) len), l, t) else none
      | _, _ => none
    | none => none
  | _ => none
theorem tabC_ok {ρ : Env} {β : Bn} {w : World} {hp : List Bk} (hb : ∀ b ∈ hp, BkOk ρ β w b) {c : Cx} (hc : c.ok ρ) {ty : TypeId} {lv : List Kd} {x : C} {m : List Tm} {l : Nat} {t : Tm} (h : tabC c hp ty lv x = some (m, l, t)) (hm : Sy.Met ρ m) :
    (∃ d ∈ hp, d.l = l ∧ d.nilable = true) ∧ C.den ρ β x = sltV (β l) (β (l + 1)) (den ρ t).c.length ∧ RowT w (β l) (β (l + 1)) ty lv (den ρ t).c := by
  unfold tabC at h
  split at h
  · rename_i l0 mm off len an
    split at h
    · rename_i b hf
      split at h
      · rename_i lv' t' hs hx
        split at h
        · rename_i q
          simp only [Bool.and_eq_true] at q
          injection h with h
          injection h with h1 h2
          injection h2 with h2 h3
          subst h1 h2 h3
          have q1 := Nat.eq_of_beq_eq_true q.1
          have q2 := sameLv_eq q.2.1
          have q3 := Nat.eq_of_beq_eq_true q.2.2.1
          subst q2 q3
          have hmem := find_mem hf
          have hB := hb b hmem.1
          unfold BkOk at hB
          rw [hs, hx] at hB
          have hB : RowT w (β b.l) (β (b.l + 1)) b.ty lv (den ρ t').c := hB
          rw [hmem.2, q1] at hB
          have l1 := le_of (need_ok hc hm.l)
          have l2 := le_of (need_ok hc hm.r)
          rw [mkTL_ok hc] at l1 l2
          refine ⟨⟨b, hmem.1, hmem.2, by unfold Bk.nilable; rw [hs, hx]; rfl⟩, ?_, hB⟩
          show C.den ρ β (.slt l0 lv.length off len an) = _
          rw [slt_den, same_eq q.2.2.2.1, same_eq q.2.2.2.2]
          show sltZ _ _ _ ((0 : Int)).toNat _ ((0 : Int)).toNat = _
          rw [show ((0 : Int)).toNat = 0 from rfl, sltZ_zero]
          congr 1
          omega
        · cases h
      · cases h
    · cases h
  · cases h

def encP (o : Option Nat) : Value := .pointer (o.map fun b => ⟨b, 0, none⟩)
theorem map_enc (bs : List Nat) : (bs.map some).map encP = (bs.map pr).flatten := by
  rw [flat_pr, List.map_map]
  rfl
set_option maxRecDepth 100000 in
theorem pdel_calls {w : World} {arr cap k : Nat} {bs : List Nat} (hT : RowT w arr cap 135 [.ptr] (bs.map pr)) (hk : k < bs.length) (h16 : bs.length ≤ 16) :
    Calls Try.prog 75 #[.slice (some ⟨arr, 0, none⟩) bs.length cap, .int .i64 (k : Int), .int .i64 ((k + 1 : Nat) : Int)] w (RetP fun v w' => v = .slice (some ⟨arr, 0, none⟩) (bs.length - 1) cap ∧ RowT w' arr cap 135 [.ptr] ((bs.eraseIdx k).map pr) ∧ Only (· = arr) w w') := by
  have hlen := hT.len
  rw [List.length_map] at hlen
  have hc : cap ≠ 0 := by omega
  obtain ⟨cur, c1, c2, c3, c4⟩ := hT.blk hc
  have c2 : cur.length = cap * 1 := c2
  rw [Nat.mul_one] at c2
  have c4 : cur.take ((bs.map pr).length * 1) = (bs.map pr).flatten := c4
  rw [List.length_map, Nat.mul_one, ← map_enc] at c4
  have hci : ∀ j, j < bs.length → cur[j]? = some (encP ((bs.map some).toArray[j]!)) := fun j hj => by
    have h7 := congrArg (fun l => l[j]?) c4
    simp only [List.getElem?_take, if_pos hj, List.getElem?_map] at h7
    rw [h7, List.getElem?_eq_getElem hj]
    simp [hj]
  have hH : Holds encP w arr 0 (bs.map some).toArray := fun j hj => by
    simp only [List.size_toArray, List.length_map] at hj
    refine ⟨?_, c1.frozen _⟩
    rw [c1.cell, Nat.zero_add]
    exact hci j hj
  obtain ⟨i0, hi0, hz1⟩ := Option.map_eq_some_iff.1 (show (Try.prog.info? 135).map (·.size) = some 1 from by kernel_rfl)
  have hds : (bs.map some).toArray.size = bs.length := by simp
  have hcall := AnyE.slices_Delete Try.pollDl encP (fun x => rfl) none (fun w => Try.zeroValue135 w) i0 hi0 hz1 arr 0 cap k (k + 1) (bs.map some).toArray w hH (by rw [hds]; exact hlen) (show cap ≤ 9223372036854775807 from Nat.le_trans c3 (by decide)) (by omega) (by rw [hds]; omega)
  rw [hds] at hcall
  refine hcall.mono ?_
  rintro e w' ⟨rfl, q, rfl⟩
  obtain ⟨ys, hys⟩ : ∃ ys, (bs.map some).toArray.toList.take k ++ (bs.map some).toArray.toList.drop (k + 1) ++ List.replicate (k + 1 - k) none = ys := ⟨_, rfl⟩
  have hyl : ys.length = (bs.map some).toArray.size := by rw [← hys, hds]; simp; omega
  have hyv : (ys.map encP).take (bs.length - 1) = ((bs.eraseIdx k).map pr).flatten := by
    rw [← hys, List.toList_toArray, List.eraseIdx_eq_take_drop_succ, ← map_enc, List.map_append, List.map_append, List.map_append, List.map_take, List.map_drop]
    rw [List.take_append_of_le_length (by simp; omega), List.take_of_length_le (by simp; omega), List.map_append, ← List.map_take, ← List.map_drop, ← List.map_take, ← List.map_drop]
  refine ⟨_, rfl, by rw [Nat.add_sub_cancel_left], ?_⟩
  rw [hys, putRow_eq_setCells encP w arr 0 (bs.map some).toArray ys q hH hyl]
  have hvl : (ys.map encP).length = bs.length := by rw [List.length_map, hyl, hds]
  have b1 := setCells_same (ys.map encP) 0 (c1.drewN q) (by omega)
  have hol : (overV cur 0 (ys.map encP)).length = cur.length := overV_len (by omega)
  refine ⟨⟨fun _ => ⟨(overV cur 0 (ys.map encP)).toArray, b1, by rw [List.size_toArray, hol, c2]; simp, c3, ?_⟩, by rw [List.length_map, List.length_eraseIdx, if_pos hk]; omega, fun r hr => ?_⟩, ?_⟩
  · rw [List.toList_toArray, List.length_map, List.length_eraseIdx, if_pos hk]
    show List.take ((bs.length - 1) * 1) ([] ++ (ys.map encP ++ _)) = _
    rw [Nat.mul_one, List.nil_append, List.take_append_of_le_length (by omega)]
    exact hyv
  · obtain ⟨b, _, rfl⟩ := List.mem_map.1 hr
    exact ⟨⟨b, rfl⟩, trivial⟩
  · exact setCells_only (S := (· = arr)) (.inl rfl) _ _ ((Only.refl _ _).drewN q)
end Go.Proofs.Ytnjpoidpfcfbeaa
/- The poller's Drop: its contract. -/
namespace Go.Proofs.Ytnjpoidpfcfbeaa
open Go.RowKit Sy
set_option linter.unusedVariables false
set_option linter.unusedSimpArgs false

def pdlSel (s : Sy.St) : List SV → Option Did
  | [.one (.c x), .one (.c (.int .i64 k)), .one (.c (.int .i64 j))] => match tabC s.cx s.hp 135 [.ptr] x with
    | some (ms, lt, t) => some ⟨ms ++ (need s.cx (.le (.il 0) k) ++ (need s.cx (.lt k (mkTL s.cx t)) ++ (need s.cx (.le (mkTL s.cx t) (.il 16)) ++ (need s.cx (.le j (mkAdd k (.il 1))) ++ need s.cx (.le (mkAdd k (.il 1)) j))))), [lt], [], [⟨s.nx, 135, [], true, none, .tab [.ptr] (.ap 52 t k (.il 0))⟩], .one (.c (.slt s.nx 1 (.il 0) (tlen (.ap 52 t k (.il 0))) (.il 0))), [⟨tlen (.ap 52 t k (.il 0)), 0, 16⟩], none⟩
    | none => none
  | _ => none
def pdlSp : Sy.Spec := chgSp 75 pdlSel
theorem erase_map {α γ : Type} (f : α → γ) (l : List α) (k : Nat) : (l.map f).eraseIdx k = (l.eraseIdx k).map f := by
  rw [List.eraseIdx_eq_take_drop_succ, List.eraseIdx_eq_take_drop_succ, List.map_append, List.map_take, List.map_drop]
theorem pdlSp_ok {ρ : Env} (hf : ρ.f = poF) (hall : ∀ t : Tm, (∀ r ∈ (den ρ t).c, kAll [.ptr] r) → ∃ bs : List Nat, (den ρ t).c = bs.map pr) : pdlSp.Ok Try.prog ρ := by
  refine chgSp_ok fun {s xs d} hs hc hm {β w} hb hne => ?_
  unfold pdlSel at hs
  split at hs
  · rename_i x k j
    split at hs
    · rename_i ms lt t h1
      injection hs with hs
      subst hs
      obtain ⟨⟨d, hd, dl, dn⟩, a1, a2⟩ := tabC_ok (β := β) hb hc h1 hm.l
      have m1 := le_of (need_ok hc hm.r.l)
      have m2 := lt_of (need_ok hc hm.r.r.l)
      have m3 := le_of (need_ok hc hm.r.r.r.l)
      have m4 := le_of (need_ok hc hm.r.r.r.r.l)
      have m5 := le_of (need_ok hc hm.r.r.r.r.r)
      rw [mkTL_ok hc] at m2 m3
      rw [mkAdd_ok] at m4 m5
      change (0 : Int) ≤ _ at m1
      change _ ≤ (16 : Int) at m3
      change _ ≤ (den ρ k).i + 1 at m4
      change (den ρ k).i + 1 ≤ _ at m5
      obtain ⟨bs, hbs⟩ := hall t a2.ok
      obtain ⟨kn, hkn⟩ : ∃ kn : Nat, (den ρ k).i = (kn : Int) := ⟨(den ρ k).i.toNat, by omega⟩
      have hj : (den ρ j).i = ((kn + 1 : Nat) : Int) := by omega
      have hbl : (den ρ t).c.length = bs.length := by rw [hbs, List.length_map]
      have e : (den ρ (.ap 52 t k (.il 0))).c = (bs.eraseIdx kn).map pr := by
        show (ρ.f 52 _ _ _).c = _
        rw [hf]
        show (den ρ t).c.eraseIdx (den ρ k).i.toNat = _
        rw [hkn, Int.toNat_natCast, hbs, erase_map]
      have hlt : kn < bs.length := by omega
      have hl : ((bs.eraseIdx kn).map pr).length = bs.length - 1 := by rw [List.length_map, List.length_eraseIdx, if_pos hlt]
      refine ⟨fun y hy => ?_, ?_⟩
      · rw [List.mem_singleton.1 hy]
        show (0 : Int) ≤ ((den ρ (.ap 52 t k (.il 0))).c.length : Int) ∧ ((den ρ (.ap 52 t k (.il 0))).c.length : Int) ≤ 16
        rw [e, hl]
        omega
      · have hlc := a2.len
        have hc0 : β (lt + 1) ≠ 0 := by omega
        rw [hbs] at a2
        have hcall := pdel_calls a2 hlt (by omega)
        show Calls Try.prog 75 (#[C.den ρ β x, .int .i64 (den ρ k).i, .int .i64 (den ρ j).i]) w _
        rw [a1, hkn, hj, hbl]
        have ev : sltV (β lt) (β (lt + 1)) bs.length = .slice (some ⟨β lt, 0, none⟩) bs.length (β (lt + 1)) := by unfold sltV; rw [if_neg hc0]
        rw [ev]
        refine hcall.mono ?_
        rintro e' w' ⟨v, rfl, rfl, h2, h3⟩
        have hold : ∀ v, v < s.nx → upd (upd β s.nx (β lt)) (s.nx + 1) (β (lt + 1)) v = β v := fun v hv => by rw [upd_old (by omega), upd_old (by omega)]
        have e0 : upd (upd β s.nx (β lt)) (s.nx + 1) (β (lt + 1)) s.nx = β lt := by rw [upd_old (by omega), upd_new]
        have e1 : upd (upd β s.nx (β lt)) (s.nx + 1) (β (lt + 1)) (s.nx + 1) = β (lt + 1) := upd_new _ _ _
        have hdr : d.real β := .inr (by rw [dl]; exact hc0)
        refine ⟨upd (upd β s.nx (β lt)) (s.nx + 1) (β (lt + 1)), ?_, h3.mono fun k _ hk => .inr (.inl ⟨d, hd, by rw [dl]; exact List.mem_cons_self .., hdr, by rw [hk, ← dl]; exact fp_root β d⟩), fun l hl => hold l hl, fun b hb => (by cases hb), fun b hb => ?_, fun b hb => (by cases hb), fun b hb hr i hi => ?_, fun x hx y hy hxy => ?_, fun _ _ b hb => (by cases hb)⟩
        · show _ = Ending.returned (sltZ (upd (upd β s.nx (β lt)) (s.nx + 1) (β (lt + 1)) s.nx) (upd (upd β s.nx (β lt)) (s.nx + 1) (β (lt + 1)) (s.nx + 1)) 1 0 (den ρ (.ap 52 t k (.il 0))).c.length 0)
          rw [e0, e1, sltZ_zero, e, hl]
          unfold sltV
          rw [if_neg hc0]
        · rw [List.mem_singleton.1 hb]
          show RowT w' (upd (upd β s.nx (β lt)) (s.nx + 1) (β (lt + 1)) s.nx) (upd (upd β s.nx (β lt)) (s.nx + 1) (β (lt + 1)) (s.nx + 1)) _ [.ptr] (den ρ (.ap 52 t k (.il 0))).c
          rw [e0, e1, e]
          exact h2
        · rw [List.mem_singleton.1 hb] at hi
          have := fp_one rfl hi
          exact .inl ⟨d, hd, by rw [dl]; exact List.mem_cons_self .., hdr, by rw [this]; show fp β d (upd _ _ _ s.nx); rw [e0, ← dl]; exact fp_root β d⟩
        · rw [List.mem_singleton.1 hx, List.mem_singleton.1 hy] at hxy
          exact absurd rfl hxy
    · cases hs
  · cases hs
theorem ptr_all : ∀ l : List (List Value), (∀ r ∈ l, kAll [.ptr] r) → ∃ bs : List Nat, l = bs.map pr
  | [], _ => ⟨[], rfl⟩
  | r :: l, h => by
    obtain ⟨bs, e⟩ := ptr_all l fun z hz => h z (List.mem_cons_of_mem _ hz)
    obtain ⟨v, r', rfl, ⟨n, rfl⟩, hr⟩ := kAll_cons (h r (List.mem_cons_self ..))
    rw [kAll_nil hr]
    exact ⟨n :: bs, by rw [List.map_cons, ← e]; rfl⟩

/-! Drop. -/
def drA : List SV := [.one (.c (.ptr 0 0)), .one (.c (.int .i64 (.iv 20)))]
def drP : List Nat := [1, 1]
def drR0 (P : Program) (fn : Func) : Rs := run P [patSp] 10 400 4 (.code (pre drP (bodyOf fn))) (enterS fn drA po0)
def drT (P : Program) (fn : Func) : Sy.St := tplK (lfAt (drR0 P fn) 0) [0, 1] [(5, .one (.c (.int .i64 (.iv 22))))] [] ⟨poBs', []⟩ 40
def drCx : Cx := ⟨⟨.iv 22, 0, 15⟩ :: poBs', [.lt (.iv 22) (tlen (.cv 1))]⟩
def drTA (P : Program) (fn : Func) : Sy.St := { drT P fn with hp := [ptB true, arB true (.cv 1)], cx := drCx }
def drTB (P : Program) (fn : Func) : Sy.St := { drT P fn with cx := ⟨⟨.iv 22, -1, -1⟩ :: poBs', []⟩ }
def drHp : List Bk := [⟨40, 135, [], true, none, .tab [.ptr] (.ap 52 (.cv 1) (.iv 22) (.il 0))⟩, ⟨0, 134, [.slt 40 1 (.il 0) (tlen (.ap 52 (.cv 1) (.iv 22) (.il 0))) (.il 0)], true, none, .no⟩]
set_option maxRecDepth 100000 in
theorem dr_run0 : shR 4 none (drR0 Try.prog Try.f38) = some [.out 0 .normal []] := by kernel_rfl
set_option maxRecDepth 100000 in
theorem dr_own0 : find 0 (lfAt (drR0 Try.prog Try.f38) 0).hp = some ownB := by kernel_rfl
set_option maxRecDepth 100000 in
theorem dr_match : (matchS 4 (drT Try.prog Try.f38) (lfAt (drR0 Try.prog Try.f38) 0)).map noU = some [.i 22 (.ap 7 (.cv 0) (.iv 20) (.il 0))] := by kernel_rfl
set_option maxRecDepth 100000 in
theorem dr_runA : smR Try.prog Try.f38 4 (run Try.prog [pdlSp] 10 400 4 (.code (Sy.sub drP (bodyOf Try.f38))) (drTA Try.prog Try.f38)) = some [.ret (.one (.c (.int .i64 (.il 0)))) drHp [.lt (.iv 22) (tlen (.cv 1))]] := by kernel_rfl
set_option maxRecDepth 100000 in
theorem dr_runB : smR Try.prog Try.f38 4 (run Try.prog [] 10 400 4 (.code (Sy.sub drP (bodyOf Try.f38))) (drTB Try.prog Try.f38)) = some [.ret (.one (.c (.int .i64 (.il 7)))) [ownB] []] := by kernel_rfl
theorem getD_erase {α : Type} (l : List α) (k i : Nat) (d : α) : (l.eraseIdx k).getD i d = if i < k then l.getD i d else l.getD (i + 1) d := by
  rw [List.getD_eq_getElem?_getD, List.getElem?_eraseIdx]
  split
  · rw [List.getD_eq_getElem?_getD]
  · rw [List.getD_eq_getElem?_getD]
section
variable {arr cap : Nat} {bs : List Nat} {rows : List (List Value)} {x y : Int} {e : Bool} {w w1 : World} {g : Nat}
/-- What Drop does. -/
def DrPost (w : World) (g arr cap : Nat) (bs : List Nat) (rows : List (List Value)) (x : Int) (v : Value) (w' : World) : Prop := v = .int .i64 (drpC rows x) ∧ PolGo w w' g arr cap bs (drpR rows x)
/-- A poller with one watch less. -/
theorem Pol.less (h : Pol w1 g arr cap bs rows) {k : Nat} (hk : k < rows.length) {w2 : World} (ho : Only (poS g arr cap) w1 w2) {arr' cap' : Nat} (ha : cap' ≠ 0 → arr' ≠ g ∧ ((cap ≠ 0 ∧ arr' = arr) ∨ w1.heap.size ≤ arr'))
    (hT : RowT w2 arr' cap' 135 [.ptr] ((bs.eraseIdx k).map pr)) (hO : Blk w2 g 134 [sltV arr' cap' (bs.eraseIdx k).length]) : Pol w2 g arr' cap' (bs.eraseIdx k) (rows.eraseIdx k) ∧ ∀ i ∈ polF g arr' cap' (bs.eraseIdx k), i ∈ polF g arr cap bs ∨ w1.heap.size ≤ i := by
  have hl := h.fam.len
  have hF := h.fam2 ho
  have hsub : ∀ z, z ∈ bs.eraseIdx k → z ∈ bs := fun z hz => List.mem_of_mem_eraseIdx hz
  have l16 := h.l16
  refine ⟨⟨⟨?_, h.fam.nd.eraseIdx k, fun i hi => ?_, fun z hz => h.fam.good z (List.mem_of_mem_eraseIdx hz)⟩, ?_, hO, hT, fun q => h.g0 (hsub _ q), fun q => ⟨fun hm => ?_, (ha q).1⟩⟩, fun i hi => ?_⟩
  · rw [List.length_eraseIdx, List.length_eraseIdx, hl]
  · rw [getD_erase, getD_erase]
    rw [List.length_eraseIdx, if_pos hk] at hi
    split
    · exact hF.blk i (by omega)
    · exact hF.blk (i + 1) (by omega)
  · rw [List.length_eraseIdx, if_pos hk]; omega
  · rcases (ha q).2 with ⟨hc, e⟩ | e
    · exact (h.a0 hc).1 (e ▸ hsub _ hm)
    · have := h.fam.lt (hsub _ hm)
      omega
  · rcases polF_mem.1 hi with rfl | ⟨q, rfl⟩ | hm
    · exact .inl (polF_mem.2 (.inl rfl))
    · rcases (ha q).2 with q | q
      · exact .inl (polF_mem.2 (.inr (.inl q)))
      · exact .inr q
    · exact .inl (polF_mem.2 (.inr (.inr (hsub _ hm))))
set_option maxRecDepth 100000 in
/-- Drop. -/
theorem drp_calls (h : Pol w g arr cap bs rows) (hx0 : -9223372036854775808 ≤ x) (hx1 : x ≤ 9223372036854775807) :
    Calls Try.prog 38 #[.pointer (some ⟨g, 0, none⟩), .int .i64 x] w (RetP (DrPost w g arr cap bs rows x)) := by
  have I := poE_I (arr := arr) (cap := cap) (bs := bs) (rows := rows) (e := false) (y := 0) hx0 hx1 (by decide) (by decide)
  refine calls_pre (B := ⟨poE arr cap bs rows x 0 false, fun i => i ∈ polF g arr cap bs, w, poN g arr cap bs, 4⟩) (sp := [patSp]) (p := drP) (xs := drA) (s := po0) (r := drR0 Try.prog Try.f38) I.good (fun q hq => by rw [List.mem_singleton.1 hq]; exact patSp_ok I.f I.o) rfl Try.func38 rfl rfl dr_run0 (po_init h I) ⟨?_, trivial⟩ rfl
  intro hpc β a w1 M
  have hP := own_back I M.old (M.hp ownB (find_mem dr_own0).1)
  have I1 : ∀ u, PoI arr cap bs rows x 0 false { (poE arr cap bs rows x 0 false).sub β [.i 22 (.ap 7 (.cv 0) (.iv 20) (.il 0))] with u := u } := fun u => ⟨I.good, I.i20, I.i21, I.b20, I.c0, I.c1, I.f, I.o, I.x0, I.x1, I.y0, I.y1⟩
  have hl := h.fam.len
  have hl16 : bs.length ≤ 16 := by rw [h.fam.len]; exact h.l16
  obtain ⟨u, β1, M1⟩ := Sy.Md.enter M dr_match (fun u => ⟨(I1 u).bds hl16, fun t ht => by cases ht⟩)
  have I1 := I1 u
  have h22 : ({ (poE arr cap bs rows x 0 false).sub β [.i 22 (.ap 7 (.cv 0) (.iv 20) (.il 0))] with u := u } : Env).i 22 = ixOf (isFd x) rows := rfl
  generalize ({ (poE arr cap bs rows x 0 false).sub β [.i 22 (.ap 7 (.cv 0) (.iv 20) (.il 0))] with u := u } : Env) = ρ1 at M1 I1 h22
  show (Sy.sub drP (bodyOf Try.f38)).wp Try.prog (bodyPost Try.prog Try.f38 (RetP (DrPost w g arr cap bs rows x))) a w1
  have hbd := ixOf_bd (isFd x) rows
  by_cases hix : ixOf (isFd x) rows < 0
  · have hcx : Cx.ok ρ1 ⟨⟨.iv 22, -1, -1⟩ :: poBs', []⟩ := ⟨fun z hz => by
      rcases List.mem_cons.1 hz with rfl | hz
      · show (-1 : Int) ≤ ρ1.i 22 ∧ ρ1.i 22 ≤ -1
        omega
      · exact I1.bds hl16 z hz, fun t ht => by cases ht⟩
    have M2 : Md ρ1 (fun i => i ∈ polF g arr cap bs) w (poN g arr cap bs) 4 (drTB Try.prog Try.f38) β1 a w1 := ⟨M1.act, M1.hp, M1.ne, M1.may, hcx, M1.only, M1.old⟩
    refine tail_fin (B := ⟨ρ1, fun i => i ∈ polF g arr cap bs, w, poN g arr cap bs, 4⟩) (sp := []) (lim := 10) (fuel := 400) I1.good (fun q hq => by cases hq) dr_runB ⟨?_, trivial⟩ M2
    intro _ β2 w2 hH
    refine ⟨?_, ?_⟩
    · show Value.int .i64 7 = _
      unfold drpC
      rw [if_pos hix]
    · unfold drpR
      rw [if_pos hix]
      exact po_same (own_back I1 hH.old (hH.hp _ (List.mem_cons_self ..))) hH.only
  · obtain ⟨k, hk⟩ : ∃ k : Nat, ixOf (isFd x) rows = (k : Int) := ⟨(ixOf (isFd x) rows).toNat, by omega⟩
    have hkr : k < rows.length := by omega
    have l16 := h.l16
    have e0 : β1 0 = g := M1.old 0 (show 0 < 4 by decide)
    have e2 : β1 2 = arr := M1.old 2 (show 2 < 4 by decide)
    have e3 : β1 3 = cap := M1.old 3 (show 3 < 4 by decide)
    have hcx : Cx.ok ρ1 drCx := ⟨fun z hz => by
      rcases List.mem_cons.1 hz with rfl | hz
      · show (0 : Int) ≤ ρ1.i 22 ∧ ρ1.i 22 ≤ 15
        omega
      · exact I1.bds hl16 z hz, fun t ht => by
      rw [List.mem_singleton.1 ht, t_lt]
      show ρ1.i 22 < ((ρ1.c 1).length : Int)
      rw [I1.c1, List.length_map]
      omega⟩
    have M2 : Md ρ1 (poS g arr cap) w1 β1 4 (drTA Try.prog Try.f38) β1 a w1 := po_open hP I1.c1 e0 e2 e3 hcx M1
    refine tail_fin (B := ⟨ρ1, poS g arr cap, w1, β1, 4⟩) (sp := [pdlSp]) (lim := 10) (fuel := 400) I1.good (fun q hq => by rw [List.mem_singleton.1 hq]; exact pdlSp_ok I1.f fun t h => ptr_all _ h) dr_runA ⟨?_, trivial⟩ M2
    intro _ βf w2 hH
    have b40 : (⟨40, 135, [], true, none, .tab [.ptr] (.ap 52 (.cv 1) (.iv 22) (.il 0))⟩ : Bk) ∈ drHp := List.mem_cons_self ..
    have b0 : (⟨0, 134, [.slt 40 1 (.il 0) (tlen (.ap 52 (.cv 1) (.iv 22) (.il 0))) (.il 0)], true, none, .no⟩ : Bk) ∈ drHp := List.mem_cons_of_mem _ (List.mem_cons_self ..)
    have k0 : βf 0 = g := (hH.old 0 (show 0 < 4 by decide)).trans e0
    have hT : RowT w2 (βf 40) (βf 41) 135 [.ptr] (den ρ1 (.ap 52 (.cv 1) (.iv 22) (.il 0))).c := hH.hp _ b40
    have hO : Blk w2 (βf 0) 134 [sltZ (βf 40) (βf 41) 1 0 (((den ρ1 (.ap 52 (.cv 1) (.iv 22) (.il 0))).c.length : Int)).toNat 0] := hH.hp _ b0
    have hap : (den ρ1 (.ap 52 (.cv 1) (.iv 22) (.il 0))).c = (bs.eraseIdx k).map pr := by
      show (ρ1.f 52 _ _ _).c = _
      rw [I1.f]
      show (ρ1.c 1).eraseIdx (ρ1.i 22).toNat = _
      rw [I1.c1, h22, hk, Int.toNat_natCast, erase_map]
    rw [hap] at hT hO
    rw [sltZ_zero, Int.toNat_natCast, List.length_map, k0] at hO
    have hP2 := hP.less hkr hH.only (arr' := βf 40) (cap' := βf 41) (fun hc => by
      have n2 : βf 40 ≠ βf 0 := hH.neq _ b40 _ b0 (by decide) (.inr hc) (.inl rfl)
      refine ⟨fun q => n2 (q.trans k0.symm), ?_⟩
      rcases hH.may0 _ b40 rfl (.inr hc) with q | q
      · rcases q with q | q
        · exact absurd (q.trans k0.symm) n2
        · exact .inl q
      · exact .inr q) hT hO
    refine ⟨?_, ?_⟩
    · show Value.int .i64 0 = _
      unfold drpC
      rw [if_neg hix]
    · unfold drpR
      rw [if_neg hix, hk, Int.toNat_natCast]
      exact ⟨_, _, _, hP2.1, M1.only.trans (hH.only.mono fun i _ hi => poS_sub hi), fun i hi => (hP2.2 i hi).imp (fun q => q) fun q => Nat.le_trans M1.only.size q⟩
end
end Go.Proofs.Ytnjpoidpfcfbeaa
