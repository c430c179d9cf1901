/- The poller's Wait: its code run in parts; who is told of, plainly. -/
import Derived.Test.YtnjpoidpfcfbeaaPollC
namespace Go.Proofs.Ytnjpoidpfcfbeaa
open Go.RowKit Sy
set_option linter.unusedVariables false
set_option linter.unusedSimpArgs false

def waA : List SV := [.one (.c (.ptr 0 0)), .one (.c (.int .i64 (.iv 21)))]
def waBs : List Bd := [⟨tlen (.cv 1), 0, 16⟩, i64B 21]
def wa0 : Sy.St := ⟨[], [ptB false, arB false (.cv 1)], ⟨waBs, []⟩, 50⟩
def waP : List Nat := [1, 1, 1, 1, 0, 1, 2]
def waR0 (P : Program) (fn : Func) : Rs := run P [] 10 400 4 (.code (pre waP (bodyOf fn))) (enterS fn waA wa0)
def wkLv : List Kd := [.int .i64, .int .i64]
def waS1 (P : Program) (fn : Func) : Sy.St := tabSlot (tabSlot (tabSlot (lfAt (waR0 P fn) 1) 6 60 78 wkLv) 7 62 135 [.ptr]) 8 64 135 [.ptr]
def waCx : Cx := ⟨⟨.iv 0, 0, 16⟩ :: ⟨.iv 1, 0, 16⟩ :: ⟨.iv 2, 0, 16⟩ :: ⟨.iv 3, 0, 16⟩ :: ⟨tlen (.cv 2), 0, 16⟩ :: ⟨tlen (.cv 3), 0, 16⟩ :: ⟨tlen (.cv 4), 0, 16⟩ :: waBs, [.le (.iv 0) (tlen (.cv 1)), .le (.iv 1) (tlen (.cv 2)), .le (tlen (.cv 2)) (.iv 1), .le (.iv 2) (tlen (.cv 3)), .le (tlen (.cv 3)) (.iv 2), .le (.iv 3) (tlen (.cv 4)), .le (tlen (.cv 4)) (.iv 3)]⟩
def waB (k n : Nat) (ty : TypeId) (lv : List Kd) : Bk := ⟨k, ty, [], true, none, .tab lv (.cv n)⟩
def waL (fn : Func) : Code := lpBody (Sy.sub waP (bodyOf fn))
def waTbs : List Bk := [waB 64 4 135 [.ptr], waB 62 3 135 [.ptr], waB 60 2 78 wkLv]
def waHp : List Bk := [ptB false, waB 64 4 135 [.ptr], waB 62 3 135 [.ptr], waB 60 2 78 wkLv, arB false (.cv 1)]
def waT (P : Program) (fn : Func) : Sy.St := tplS (waS1 P fn) (waL fn) [(19, .one (.c (.int .i64 (.iv 0)))), (6, .one (.c (.slt 60 2 (.il 0) (.iv 1) (.il 0)))), (7, .one (.c (.slt 62 1 (.il 0) (.iv 2) (.il 0)))), (8, .one (.c (.slt 64 1 (.il 0) (.iv 3) (.il 0))))] waTbs waCx 70
def waR1 (P : Program) (fn : Func) : Rs := run P [] 10 400 4 (.code (pre [1, 1] (waL fn))) (waT P fn)
def waFT : Tm := .tb (.get .ptr 0) (.cv 1) (.iv 0) (.il 0)
def foB3 : List Bd := [i64B 30, ⟨.iv 31, 0, 7⟩, ⟨.iv 32, 0, 7⟩]
def waCx1 : Cx := ⟨foB3 ++ waCx.bs, .lt (.iv 0) (tlen (.cv 1)) :: waCx.pc⟩
def waS2 (P : Program) (fn : Func) : Sy.St := { lfAt (waR1 P fn) 0 with cx := waCx1, hp := waHp }
def waF (P : Program) (fn : Func) : Sy.St := St.focus (waS2 P fn) 4 137 foC true waFT
def foC5 : List C := [.int .i64 (.iv 30), .int .i64 (.iv 31), .int .i64 (.iv 32), .bool (.bv 33), .bool (.bv 35)]
def waTE (P : Program) (fn : Func) : Sy.St := { waT P fn with hp := ⟨4, 137, foC5, true, none, .no⟩ :: waHp }
def waR2 (P : Program) (fn : Func) : Rs := run P [] 10 400 8 (.code (Sy.sub [1, 1] (waL fn))) (waF P fn)
def waX (P : Program) (fn : Func) : Sy.St := { lfAt (waR1 P fn) 1 with hp := ptB true :: arB false (.cv 1) :: waTbs, cx := waCx }
def waL2 : List Sh := [.back [.i 3 (.add (tlen (.cv 4)) (.il 1)), .i 0 (.add (.iv 0) (.il 1)), .b 35 (.bv 34), .c 4 (.tb .app (.cv 4) (.tb (.cons .ptr) waFT (.tb .row (.il 0) (.il 0) (.il 0)) (.il 0)) (.il 0))] ([.eq (.iv 1) (.iv 21), .bv 34, .bv 33, .not (.eq (.bop .and .i64 (.iv 32) (.iv 31)) (.il 0))] ++ waCx1.pc),
  .back [.i 1 (.add (tlen (.cv 2)) (.il 1)), .i 2 (.add (tlen (.cv 3)) (.il 1)), .i 0 (.add (.iv 0) (.il 1)), .b 35 (.bl false), .c 3 (.tb .app (.cv 3) (.tb (.cons .ptr) waFT (.tb .row (.il 0) (.il 0) (.il 0)) (.il 0)) (.il 0)), .c 2 (.tb .app (.cv 2) (.tb (.cons (.int .i64)) (.iv 30) (.tb (.cons (.int .i64)) (.bop .and .i64 (.iv 32) (.iv 31)) (.tb .row (.il 0) (.il 0) (.il 0)) (.il 0)) (.il 0)) (.il 0))] ([.not (.eq (.iv 1) (.iv 21)), .bv 34, .bv 33, .not (.eq (.bop .and .i64 (.iv 32) (.iv 31)) (.il 0))] ++ waCx1.pc),
  .back [.i 3 (.add (tlen (.cv 4)) (.il 1)), .i 0 (.add (.iv 0) (.il 1)), .b 35 (.bv 34), .c 4 (.tb .app (.cv 4) (.tb (.cons .ptr) waFT (.tb .row (.il 0) (.il 0) (.il 0)) (.il 0)) (.il 0))] ([.not (.bv 34), .bv 33, .not (.eq (.bop .and .i64 (.iv 32) (.iv 31)) (.il 0))] ++ waCx1.pc),
  .back [.i 3 (.add (tlen (.cv 4)) (.il 1)), .i 0 (.add (.iv 0) (.il 1)), .b 35 (.bv 34), .c 4 (.tb .app (.cv 4) (.tb (.cons .ptr) waFT (.tb .row (.il 0) (.il 0) (.il 0)) (.il 0)) (.il 0))] ([.eq (.iv 1) (.iv 21), .not (.bv 33), .not (.eq (.bop .and .i64 (.iv 32) (.iv 31)) (.il 0))] ++ waCx1.pc),
  .back [.i 1 (.add (tlen (.cv 2)) (.il 1)), .i 2 (.add (tlen (.cv 3)) (.il 1)), .i 0 (.add (.iv 0) (.il 1)), .b 35 (.bl false), .c 3 (.tb .app (.cv 3) (.tb (.cons .ptr) waFT (.tb .row (.il 0) (.il 0) (.il 0)) (.il 0)) (.il 0)), .c 2 (.tb .app (.cv 2) (.tb (.cons (.int .i64)) (.iv 30) (.tb (.cons (.int .i64)) (.bop .and .i64 (.iv 32) (.iv 31)) (.tb .row (.il 0) (.il 0) (.il 0)) (.il 0)) (.il 0)) (.il 0))] ([.not (.eq (.iv 1) (.iv 21)), .not (.bv 33), .not (.eq (.bop .and .i64 (.iv 32) (.iv 31)) (.il 0))] ++ waCx1.pc),
  .back [.i 3 (.add (tlen (.cv 4)) (.il 1)), .i 0 (.add (.iv 0) (.il 1)), .b 35 (.bv 34), .c 4 (.tb .app (.cv 4) (.tb (.cons .ptr) waFT (.tb .row (.il 0) (.il 0) (.il 0)) (.il 0)) (.il 0))] (.eq (.bop .and .i64 (.iv 32) (.iv 31)) (.il 0) :: waCx1.pc)]
set_option maxRecDepth 100000 in
theorem wa_run0 : shR 4 none (waR0 Try.prog Try.f42) = some [.out 0 .ret [.lt (.iv 21) (.il 1)], .out 1 .normal [.not (.lt (.iv 21) (.il 1))]] := by kernel_rfl
set_option maxRecDepth 100000 in
theorem wa_ret0 : retsB Try.prog Try.f42 (waR0 Try.prog Try.f42) (.tup [.c .nslc, .c (.int .i64 (.il 1))]) [0] = true := by kernel_rfl
set_option maxRecDepth 100000 in
theorem wa_hp0 : (lfAt (waR0 Try.prog Try.f42) 0).hp = [ptB false, arB false (.cv 1)] := by kernel_rfl
set_option maxRecDepth 100000 in
theorem wa_match : (matchS 4 (waT Try.prog Try.f42) (waS1 Try.prog Try.f42)).map noU = some [.i 1 (.il 0), .i 2 (.il 0), .i 3 (.il 0), .i 0 (.il 0), .c 4 tn, .c 3 tn, .c 2 tn] := by kernel_rfl
set_option maxRecDepth 100000 in
theorem wa_fr : ((lfAt (waR0 Try.prog Try.f42) 1).free 60 && (lfAt (waR0 Try.prog Try.f42) 1).free 61 && ((tabSlot (lfAt (waR0 Try.prog Try.f42) 1) 6 60 78 wkLv).free 62 && (tabSlot (lfAt (waR0 Try.prog Try.f42) 1) 6 60 78 wkLv).free 63) && ((tabSlot (tabSlot (lfAt (waR0 Try.prog Try.f42) 1) 6 60 78 wkLv) 7 62 135 [.ptr]).free 64 && (tabSlot (tabSlot (lfAt (waR0 Try.prog Try.f42) 1) 6 60 78 wkLv) 7 62 135 [.ptr]).free 65)) = true := by kernel_rfl
set_option maxRecDepth 100000 in
theorem wa_hpT : (waT Try.prog Try.f42).hp = waHp := by kernel_rfl
set_option maxRecDepth 100000 in
theorem wa_loop : Sy.sub waP (bodyOf Try.f42) = .loop (waL Try.f42) := by kernel_rfl
set_option maxRecDepth 100000 in
theorem wa_run1 : shR 4 none (waR1 Try.prog Try.f42) = some [.out 0 .normal waCx1.pc, .out 1 (.exit 0) (.not (.lt (.iv 0) (tlen (.cv 1))) :: waCx.pc)] := by kernel_rfl
set_option maxRecDepth 100000 in
theorem wa_hp1 : ((lfAt (waR1 Try.prog Try.f42) 0).hp, (lfAt (waR1 Try.prog Try.f42) 1).hp) = (waHp, waHp) := by kernel_rfl
set_option maxRecDepth 100000 in
theorem wa_low : lowSt 30 (lfAt (waR1 Try.prog Try.f42) 0) = true := by kernel_rfl
set_option maxRecDepth 100000 in
theorem wa_free : ∀ n, 4 ≤ n → n < 8 → (waS2 Try.prog Try.f42).free n = true := by
  intro n h1 h2
  obtain rfl | rfl | rfl | rfl : n = 4 ∨ n = 5 ∨ n = 6 ∨ n = 7 := by omega
  all_goals kernel_rfl
set_option maxRecDepth 100000 in
theorem wa_run2 : shR 8 (some (waTE Try.prog Try.f42)) (waR2 Try.prog Try.f42) = some waL2 := by kernel_rfl
set_option maxRecDepth 100000 in
theorem wa_run3 : smR Try.prog Try.f42 4 (run Try.prog [] 10 400 4 (.code (aft (.exit 0) waP (bodyOf Try.f42))) (waX Try.prog Try.f42)) = some [.ret (.tup [.c (.slt 60 2 (.il 0) (.iv 1) (.il 0)), .c (.int .i64 (.il 0))]) [⟨70, 135, [], true, none, .tab [.ptr] (.tb .app (.cv 4) (.cv 3) (.il 0))⟩, ⟨0, 134, [.slt 70 1 (.il 0) (.add (tlen (.cv 4)) (tlen (.cv 3))) (.il 0)], true, none, .no⟩, arB false (.cv 1), waB 60 2 78 wkLv] waCx.pc] := by kernel_rfl

/-! Who is told of. -/
abbrev PR' := Nat × List Value
def wtP (most : Int) : Nat → List PR' → List PR' × List PR'
  | _, [] => ([], [])
  | n, p :: l => if passB most n p.2 then ((wtP most n l).1, p :: (wtP most n l).2) else (p :: (wtP most (n + 1) l).1, (wtP most (n + 1) l).2)
theorem wtP_map (most : Int) : ∀ (l : List PR') (n : Nat), (wtS most n (l.map (·.2))) = ((wtP most n l).1.map (·.2), (wtP most n l).2.map (·.2))
  | [], _ => rfl
  | p :: l, n => by
    simp only [List.map_cons, wtS, wtP]
    rw [wtP_map most l n, wtP_map most l (n + 1)]
    split <;> rfl
theorem wtP_perm (most : Int) : ∀ (l : List PR') (n : Nat), ((wtP most n l).2 ++ (wtP most n l).1).Perm l
  | [], _ => .nil
  | p :: l, n => by
    simp only [wtP]
    split
    · exact (wtP_perm most l n).cons p
    · exact (List.perm_middle).trans ((wtP_perm most l (n + 1)).cons p)
/-- After k of them: T told of, R not. -/
structure WaI (zs : List PR') (most : Int) (k : Nat) (T R : List PR') (w : World) : Prop where
  hk : k ≤ zs.length
  spl : wtP most 0 zs = (T ++ (wtP most T.length (zs.drop k)).1, R ++ (wtP most T.length (zs.drop k)).2)
  inT : ∀ p ∈ T, p ∈ zs.take k
  inR : ∀ p ∈ R, p ∈ zs.take k
  bT : ∀ p ∈ T, Blk w p.1 137 (wC (toldR p.2))
  bR : ∀ p ∈ R, Blk w p.1 137 (wC p.2)
  bD : ∀ p ∈ zs.drop k, Blk w p.1 137 (wC p.2)
  len : T.length + R.length = k
theorem WaI.start {zs : List PR'} (most : Int) {w : World} (h : ∀ p ∈ zs, Blk w p.1 137 (wC p.2)) : WaI zs most 0 [] [] w :=
  ⟨Nat.zero_le _, rfl, fun _ h => (by cases h), fun _ h => (by cases h), fun _ h => (by cases h), fun _ h => (by cases h), h, rfl⟩
theorem take_mem {α : Type} {l : List α} {k : Nat} {x : α} (h : x ∈ l.take k) : x ∈ l.take (k + 1) := by
  rw [List.take_add_one]
  exact List.mem_append_left _ h
theorem take_here {α : Type} {l : List α} {k : Nat} (h : k < l.length) : l[k] ∈ l.take (k + 1) := by
  rw [List.take_add_one, List.getElem?_eq_getElem h]
  exact List.mem_append_right _ (List.mem_singleton.2 rfl)
/-- Blocks other than the k-th are none of it. -/
theorem nd_ne {zs : List PR'} (hnd : (zs.map (·.1)).Nodup) {k : Nat} (hk : k < zs.length) {p : PR'} (hp : p ∈ zs.take k ∨ p ∈ zs.drop (k + 1)) : p.1 ≠ zs[k].1 := by
  have e : zs = zs.take k ++ (zs[k] :: zs.drop (k + 1)) := by rw [← List.drop_eq_getElem_cons hk, List.take_append_drop]
  rw [e, List.map_append, List.map_cons, List.nodup_append, List.nodup_cons] at hnd
  obtain ⟨_, ⟨h2, _⟩, h3⟩ := hnd
  rcases hp with hp | hp
  · exact h3 _ (List.mem_map.2 ⟨p, hp, rfl⟩) _ (List.mem_cons_self ..)
  · exact fun q => h2 (q ▸ List.mem_map.2 ⟨p, hp, rfl⟩)
theorem WaI.pass {zs : List PR'} (hnd : (zs.map (·.1)).Nodup) {most : Int} {k : Nat} {T R : List PR'} {w w' : World} (h : WaI zs most k T R w) (hk : k < zs.length) (hp : passB most T.length zs[k].2 = true) (ho : ∀ p ∈ zs, p.1 ≠ zs[k].1 → w'.heap[p.1]? = w.heap[p.1]?) (hB : Blk w' zs[k].1 137 (wC zs[k].2)) : WaI zs most (k + 1) T (R ++ [zs[k]]) w' := by
  have hd := List.drop_eq_getElem_cons hk
  have hs := h.spl
  rw [hd] at hs
  simp only [wtP, hp, if_true] at hs
  have tk : ∀ p, p ∈ zs.take k → w'.heap[p.1]? = w.heap[p.1]? := fun p hp => ho p (List.mem_of_mem_take hp) (nd_ne hnd hk (.inl hp))
  have hl := h.len
  refine ⟨hk, by rw [hs, List.append_assoc]; rfl, fun p hp => take_mem (h.inT p hp), fun p hp => ?_, fun p hp => (tk p (h.inT p hp)).trans (h.bT p hp), fun p hp => ?_, fun p hp => ?_, by rw [List.length_append, List.length_singleton]; omega⟩
  · rcases List.mem_append.1 hp with hp | hp
    · exact take_mem (h.inR p hp)
    · rw [List.mem_singleton.1 hp]; exact take_here hk
  · rcases List.mem_append.1 hp with hp | hp
    · exact (tk p (h.inR p hp)).trans (h.bR p hp)
    · rw [List.mem_singleton.1 hp]; exact hB
  · exact (ho p (List.mem_of_mem_drop hp) (nd_ne hnd hk (.inr hp))).trans (h.bD p (by rw [hd]; exact List.mem_cons_of_mem _ hp))
theorem WaI.tell {zs : List PR'} (hnd : (zs.map (·.1)).Nodup) {most : Int} {k : Nat} {T R : List PR'} {w w' : World} (h : WaI zs most k T R w) (hk : k < zs.length) (hp : passB most T.length zs[k].2 = false) (ho : ∀ p ∈ zs, p.1 ≠ zs[k].1 → w'.heap[p.1]? = w.heap[p.1]?) (hB : Blk w' zs[k].1 137 (wC (toldR zs[k].2))) : WaI zs most (k + 1) (T ++ [zs[k]]) R w' := by
  have hd := List.drop_eq_getElem_cons hk
  have hs := h.spl
  rw [hd] at hs
  simp only [wtP, hp, if_false, Bool.false_eq_true] at hs
  have tk : ∀ p, p ∈ zs.take k → w'.heap[p.1]? = w.heap[p.1]? := fun p hp => ho p (List.mem_of_mem_take hp) (nd_ne hnd hk (.inl hp))
  refine ⟨hk, by rw [hs, List.append_assoc, List.length_append]; rfl, fun p hp => ?_, fun p hp => take_mem (h.inR p hp), fun p hp => ?_, fun p hp => (tk p (h.inR p hp)).trans (h.bR p hp), fun p hp => ?_, by have hl := h.len; rw [List.length_append, List.length_singleton]; omega⟩
  · rcases List.mem_append.1 hp with hp | hp
    · exact take_mem (h.inT p hp)
    · rw [List.mem_singleton.1 hp]; exact take_here hk
  · rcases List.mem_append.1 hp with hp | hp
    · exact (tk p (h.inT p hp)).trans (h.bT p hp)
    · rw [List.mem_singleton.1 hp]; exact hB
  · exact (ho p (List.mem_of_mem_drop hp) (nd_ne hnd hk (.inr hp))).trans (h.bD p (by rw [hd]; exact List.mem_cons_of_mem _ hp))
theorem WaI.keep {zs : List PR'} {most : Int} {k : Nat} {T R : List PR'} {w w' : World} (h : WaI zs most k T R w) (ho : ∀ p ∈ zs, w'.heap[p.1]? = w.heap[p.1]?) : WaI zs most k T R w' :=
  ⟨h.hk, h.spl, h.inT, h.inR, fun p hp => (ho p (List.mem_of_mem_take (h.inT p hp))).trans (h.bT p hp), fun p hp => (ho p (List.mem_of_mem_take (h.inR p hp))).trans (h.bR p hp), fun p hp => (ho p (List.mem_of_mem_drop hp)).trans (h.bD p hp), h.len⟩
theorem WaI.fin {zs : List PR'} {most : Int} {T R : List PR'} {w : World} (h : WaI zs most zs.length T R w) : wtP most 0 zs = (T, R) := by
  have := h.spl
  rw [List.drop_of_length_le (Nat.le_refl _)] at this
  simpa [wtP] using this
end Go.Proofs.Ytnjpoidpfcfbeaa
/- The poller's Wait: a round of its loop. -/
namespace Go.Proofs.Ytnjpoidpfcfbeaa
open Go.RowKit Sy
set_option linter.unusedVariables false
set_option linter.unusedSimpArgs false

/-- What the letters stand for between two rounds. -/
structure WaE (zs : List PR') (most : Int) (k : Nat) (T R : List PR') (ρ : Env) : Prop where
  good : ρ.good
  i0 : ρ.i 0 = (k : Int)
  i1 : ρ.i 1 = (T.length : Int)
  i2 : ρ.i 2 = (T.length : Int)
  i3 : ρ.i 3 = (R.length : Int)
  i21 : ρ.i 21 = most
  c1 : ρ.c 1 = zs.map fun p => pr p.1
  c2 : ρ.c 2 = T.map fun p => wakeR p.2
  c3 : ρ.c 3 = T.map fun p => pr p.1
  c4 : ρ.c 4 = R.map fun p => pr p.1
  m0 : -9223372036854775808 ≤ most
  m1 : most ≤ 9223372036854775807
section
variable {zs : List PR'} {most : Int} {k : Nat} {T R : List PR'} {ρ : Env} {w w1 : World} {g arr cap : Nat} {bs : List Nat}
theorem WaE.bds (E : WaE zs most k T R ρ) (l16 : zs.length ≤ 16) : Bds ρ waBs := by
  refine bdsP_ok ⟨?_, ?_, trivial⟩
  · show (0 : Int) ≤ ((ρ.c 1).length : Int) ∧ ((ρ.c 1).length : Int) ≤ 16
    rw [E.c1, List.length_map]
    omega
  · show _ ≤ ρ.i 21 ∧ ρ.i 21 ≤ _
    rw [E.i21]; exact ⟨E.m0, E.m1⟩
theorem WaE.cx (E : WaE zs most k T R ρ) (l16 : zs.length ≤ 16) (hk : k ≤ zs.length) (hl : T.length + R.length = k) : waCx.ok ρ := by
  have i0 := E.i0
  have i1 := E.i1
  have i2 := E.i2
  have i3 := E.i3
  have l1 : (ρ.c 1).length = zs.length := by rw [E.c1, List.length_map]
  have l2 : (ρ.c 2).length = T.length := by rw [E.c2, List.length_map]
  have l3 : (ρ.c 3).length = T.length := by rw [E.c3, List.length_map]
  have l4 : (ρ.c 4).length = R.length := by rw [E.c4, List.length_map]
  have hb := E.bds l16
  refine ⟨fun z hz => ?_, pcs_all ⟨?_, ?_, ?_, ?_, ?_, ?_, ?_, trivial⟩⟩
  · rcases List.mem_cons.1 hz with rfl | hz
    · show (0 : Int) ≤ ρ.i 0 ∧ ρ.i 0 ≤ 16
      omega
    rcases List.mem_cons.1 hz with rfl | hz
    · show (0 : Int) ≤ ρ.i 1 ∧ ρ.i 1 ≤ 16
      omega
    rcases List.mem_cons.1 hz with rfl | hz
    · show (0 : Int) ≤ ρ.i 2 ∧ ρ.i 2 ≤ 16
      omega
    rcases List.mem_cons.1 hz with rfl | hz
    · show (0 : Int) ≤ ρ.i 3 ∧ ρ.i 3 ≤ 16
      omega
    rcases List.mem_cons.1 hz with rfl | hz
    · show (0 : Int) ≤ ((ρ.c 2).length : Int) ∧ ((ρ.c 2).length : Int) ≤ 16
      omega
    rcases List.mem_cons.1 hz with rfl | hz
    · show (0 : Int) ≤ ((ρ.c 3).length : Int) ∧ ((ρ.c 3).length : Int) ≤ 16
      omega
    rcases List.mem_cons.1 hz with rfl | hz
    · show (0 : Int) ≤ ((ρ.c 4).length : Int) ∧ ((ρ.c 4).length : Int) ≤ 16
      omega
    exact hb z hz
  all_goals rw [t_le]
  · show ρ.i 0 ≤ ((ρ.c 1).length : Int)
    omega
  · show ρ.i 1 ≤ ((ρ.c 2).length : Int)
    omega
  · show ((ρ.c 2).length : Int) ≤ ρ.i 1
    omega
  · show ρ.i 2 ≤ ((ρ.c 3).length : Int)
    omega
  · show ((ρ.c 3).length : Int) ≤ ρ.i 2
    omega
  · show ρ.i 3 ≤ ((ρ.c 4).length : Int)
    omega
  · show ((ρ.c 4).length : Int) ≤ ρ.i 3
    omega
/-- What a round does with the k-th watch. -/
def WaN (zs : List PR') (most : Int) (k : Nat) (T R : List PR') (hk : k < zs.length) (T' R' : List PR') (ρ : Env) : Prop :=
  WaE zs most (k + 1) T' R' ρ ∧ (ρ.i 30 = gI .i64 zs[k].2 0 ∧ ρ.i 31 = mk4 (gI .i64 zs[k].2 1) ∧ ρ.i 32 = gI .i64 zs[k].2 2 ∧ ρ.b 33 = gB zs[k].2 3) ∧
  ((passB most T.length zs[k].2 = true ∧ T' = T ∧ R' = R ++ [zs[k]] ∧ ρ.b 35 = gB zs[k].2 4) ∨ (passB most T.length zs[k].2 = false ∧ T' = T ++ [zs[k]] ∧ R' = R ∧ ρ.b 35 = false))
theorem wa_get (E : WaE zs most k T R ρ) (hk : k < zs.length) : (ρ.c 1).getD (ρ.i 0).toNat [] = pr zs[k].1 := by
  rw [E.i0, Int.toNat_natCast, E.c1, List.getD_eq_getElem?_getD, List.getElem?_map, List.getElem?_eq_getElem hk]
  rfl
theorem wa_row (E : WaE zs most k T R ρ) (hk : k < zs.length) : (den ρ (.tb (.cons .ptr) waFT (.tb .row (.il 0) (.il 0) (.il 0)) (.il 0))).c = [pr zs[k].1] := by
  show [[Value.pointer (some ⟨(getV .ptr (((ρ.c 1).getD (ρ.i 0).toNat []).getD 0 (.bool false))).i.toNat, 0, none⟩)]] = _
  rw [wa_get E hk]
  show [[Value.pointer (some ⟨((zs[k].1 : Nat) : Int).toNat, 0, none⟩)]] = _
  rw [Int.toNat_natCast]
  rfl
/-- The leaves of a round. -/
theorem wa_leaves (E : WaE zs most k T R ρ) (hk : k < zs.length) (hg : WRow zs[k].2) (h30 : ρ.i 30 = gI .i64 zs[k].2 0) (h31 : ρ.i 31 = mk4 (gI .i64 zs[k].2 1)) (h32 : ρ.i 32 = gI .i64 zs[k].2 2) (h33 : ρ.b 33 = gB zs[k].2 3) (h34 : ρ.b 34 = gB zs[k].2 4) {r : Rs} {B : Bs} (hB : B.ρ = ρ) {Q : Exit → Act → World → Prop} :
    AllL (Sh.done r B Q fun l β => ∀ u, ∃ T' R', WaN zs most k T R hk T' R' { ρ.sub β l with u := u }) waL2 := by
  subst hB
  have hw : bits .and .i64 (B.ρ.i 32) (B.ρ.i 31) = wkM (gI .i64 zs[k].2 2) (gI .i64 zs[k].2 1) := by rw [h31, h32]; exact bwk hg.r0 hg.r1 hg.m0 hg.m1
  have pas : ∀ β u, passB most T.length zs[k].2 = true → ∃ T' R', WaN zs most k T R hk T' R' { B.ρ.sub β [.i 3 (.add (tlen (.cv 4)) (.il 1)), .i 0 (.add (.iv 0) (.il 1)), .b 35 (.bv 34), .c 4 (.tb .app (.cv 4) (.tb (.cons .ptr) waFT (.tb .row (.il 0) (.il 0) (.il 0)) (.il 0)) (.il 0))] with u := u } := fun β u hp => by
    refine ⟨T, R ++ [zs[k]], ⟨E.good, ?_, E.i1, E.i2, ?_, E.i21, E.c1, E.c2, E.c3, ?_, E.m0, E.m1⟩, ⟨h30, h31, h32, h33⟩, .inl ⟨hp, rfl, rfl, h34⟩⟩
    · show B.ρ.i 0 + 1 = _
      rw [E.i0]; rfl
    · show ((B.ρ.c 4).length : Int) + 1 = _
      rw [E.c4, List.length_map, List.length_append]; rfl
    · show B.ρ.c 4 ++ (den B.ρ (.tb (.cons .ptr) waFT (.tb .row (.il 0) (.il 0) (.il 0)) (.il 0))).c = _
      rw [wa_row E hk, E.c4, List.map_append]; rfl
  have tol : ∀ β u, passB most T.length zs[k].2 = false → ∃ T' R', WaN zs most k T R hk T' R' { B.ρ.sub β [.i 1 (.add (tlen (.cv 2)) (.il 1)), .i 2 (.add (tlen (.cv 3)) (.il 1)), .i 0 (.add (.iv 0) (.il 1)), .b 35 (.bl false), .c 3 (.tb .app (.cv 3) (.tb (.cons .ptr) waFT (.tb .row (.il 0) (.il 0) (.il 0)) (.il 0)) (.il 0)), .c 2 (.tb .app (.cv 2) (.tb (.cons (.int .i64)) (.iv 30) (.tb (.cons (.int .i64)) (.bop .and .i64 (.iv 32) (.iv 31)) (.tb .row (.il 0) (.il 0) (.il 0)) (.il 0)) (.il 0)) (.il 0))] with u := u } := fun β u hp => by
    refine ⟨T ++ [zs[k]], R, ⟨E.good, ?_, ?_, ?_, E.i3, E.i21, E.c1, ?_, ?_, E.c4, E.m0, E.m1⟩, ⟨h30, h31, h32, h33⟩, .inr ⟨hp, rfl, rfl, rfl⟩⟩
    · show B.ρ.i 0 + 1 = _
      rw [E.i0]; rfl
    · show ((B.ρ.c 2).length : Int) + 1 = _
      rw [E.c2, List.length_map, List.length_append]; rfl
    · show ((B.ρ.c 3).length : Int) + 1 = _
      rw [E.c3, List.length_map, List.length_append]; rfl
    · show B.ρ.c 2 ++ [[Value.int .i64 (B.ρ.i 30), .int .i64 (bits .and .i64 (B.ρ.i 32) (B.ρ.i 31))]] = _
      rw [hw, h30, E.c2, List.map_append]; rfl
    · show B.ρ.c 3 ++ (den B.ρ (.tb (.cons .ptr) waFT (.tb .row (.il 0) (.il 0) (.il 0)) (.il 0))).c = _
      rw [wa_row E hk, E.c3, List.map_append]; rfl
  have e21 := E.i21
  have e1 := E.i1
  have cd : ∀ t : Tm, (den B.ρ t).b = true → (den B.ρ t).b = true := fun _ h => h
  refine ⟨?_, ?_, ?_, ?_, ?_, ?_, trivial⟩
  · intro hpc β u
    refine pas β u ?_
    have q := hpc.1
    rw [t_eq] at q
    change B.ρ.i 1 = B.ρ.i 21 at q
    unfold passB
    rw [show ((T.length : Int) = most) from by omega, decide_eq_true rfl, Bool.or_true]
  · intro hpc β u
    refine tol β u ?_
    have q := hpc.1
    have q2 : B.ρ.b 34 = true := hpc.2.1
    have q4 := hpc.2.2.2.1
    rw [t_not, t_eq] at q q4
    change ¬ B.ρ.i 1 = B.ρ.i 21 at q
    change ¬ bits .and .i64 (B.ρ.i 32) (B.ρ.i 31) = 0 at q4
    rw [hw] at q4
    unfold passB
    rw [← h34, q2, decide_eq_false q4, decide_eq_false (show ¬ (T.length : Int) = most by omega)]
    simp
  · intro hpc β u
    refine pas β u ?_
    have q1 := hpc.1
    have q2 : B.ρ.b 33 = true := hpc.2.1
    rw [t_not] at q1
    have q1 : B.ρ.b 34 = false := by
      change ¬ (B.ρ.b 34 = true) at q1
      simpa using q1
    unfold passB
    rw [← h34, ← h33, q1, q2]
    simp
  · intro hpc β u
    refine pas β u ?_
    have q := hpc.1
    rw [t_eq] at q
    change B.ρ.i 1 = B.ρ.i 21 at q
    unfold passB
    rw [show ((T.length : Int) = most) from by omega, decide_eq_true rfl, Bool.or_true]
  · intro hpc β u
    refine tol β u ?_
    have q := hpc.1
    have q2 := hpc.2.1
    have q4 := hpc.2.2.1
    rw [t_not, t_eq] at q q4
    rw [t_not] at q2
    have q2 : B.ρ.b 33 = false := by
      change ¬ (B.ρ.b 33 = true) at q2
      simpa using q2
    change ¬ B.ρ.i 1 = B.ρ.i 21 at q
    change ¬ bits .and .i64 (B.ρ.i 32) (B.ρ.i 31) = 0 at q4
    rw [hw] at q4
    unfold passB
    rw [← h33, q2, decide_eq_false q4, decide_eq_false (show ¬ (T.length : Int) = most by omega)]
    simp
  · intro hpc β u
    refine pas β u ?_
    have q := hpc.1
    rw [t_eq] at q
    change bits .and .i64 (B.ρ.i 32) (B.ρ.i 31) = 0 at q
    rw [hw] at q
    unfold passB
    rw [decide_eq_true q, Bool.true_or, Bool.true_or]
end
end Go.Proofs.Ytnjpoidpfcfbeaa
/- The poller's Wait: its loop; its contract. -/
namespace Go.Proofs.Ytnjpoidpfcfbeaa
open Go.RowKit Sy
set_option linter.unusedVariables false
set_option linter.unusedSimpArgs false

/-- The watches as pairs of block and row. -/
structure WaH (w : World) (g arr cap : Nat) (bs : List Nat) (zs : List PR') : Prop where
  e1 : zs.map (·.1) = bs
  nd : (zs.map (·.1)).Nodup
  good : ∀ p ∈ zs, WRow p.2
  lt : ∀ p ∈ zs, p.1 < w.heap.size
  g0 : ∀ p ∈ zs, p.1 ≠ g
  a0 : ∀ p ∈ zs, cap ≠ 0 → p.1 ≠ arr
  l16 : zs.length ≤ 16
def Sf (w : World) (i : Nat) : Prop := w.heap.size ≤ i
section
variable {zs : List PR'} {most : Int} {w : World} {g arr cap : Nat} {bs : List Nat} {rows : List (List Value)}
theorem WaH.pol (H : WaH w g arr cap bs zs) {p : PR'} (hp : p ∈ zs) : p.1 ∈ polF g arr cap bs := polF_mem.2 (.inr (.inr (H.e1 ▸ List.mem_map.2 ⟨p, hp, rfl⟩)))
def WaJ (zs : List PR') (most : Int) (w : World) (g arr cap : Nat) (bs : List Nat) (ρ : Env) (a : Act) (w' : World) : Prop :=
  ∃ k T R, WaE zs most k T R ρ ∧ WaI zs most k T R w' ∧ Only (fun i => i ∈ polF g arr cap bs) w w' ∧ ∃ β, Md ρ (Sf w) w' (poN g arr cap bs) 4 (waT Try.prog Try.f42) β a w'
theorem fresh_keep (H : WaH w g arr cap bs zs) {w' w1 : World} (hw : w.heap.size ≤ w'.heap.size) (ho : Only (Sf w) w' w1) : ∀ p ∈ zs, w1.heap[p.1]? = w'.heap[p.1]? := fun p hp => ho.block _ (Nat.lt_of_lt_of_le (H.lt p hp) hw) (fun q => by have := H.lt p hp; unfold Sf at q; omega)
set_option maxRecDepth 100000 in
set_option maxHeartbeats 1000000 in
theorem wa_round (H : WaH w g arr cap bs zs) {Q : Exit → Act → World → Prop}
    (hend : ∀ ρ T R β a w0 w1, w.heap.size ≤ w0.heap.size → WaE zs most zs.length T R ρ → WaI zs most zs.length T R w1 → Only (fun i => i ∈ polF g arr cap bs) w w1 → Md ρ (Sf w) w0 (poN g arr cap bs) 4 (lfAt (waR1 Try.prog Try.f42) 1) β a w1 → Q (.exit 0) a w1)
    {ρ : Env} {a : Act} {w' : World} (hJ : WaJ zs most w g arr cap bs ρ a w') : (waL Try.f42).wp Try.prog (Exit.then (fun a' w' => ∃ j : Env, (zs.length - (j.i 0).toNat) < (zs.length - (ρ.i 0).toNat) ∧ WaJ zs most w g arr cap bs j a' w') Q) a w' := by
  obtain ⟨k, T, R, E, I, hO, β, M⟩ := hJ
  have hw := hO.size
  obtain ⟨hp1, hp2⟩ := Prod.mk.inj wa_hp1
  refine part_pre (B := ⟨ρ, Sf w, w', poN g arr cap bs, 4⟩) (sp := []) (p := [1, 1]) E.good (fun q hq => by cases hq) rfl (r := waR1 Try.prog Try.f42) rfl wa_run1 ⟨?_, ?_, trivial⟩ M
  · intro hpc β1 a1 w1 M1
    have hk : k < zs.length := by
      have q : (den ρ (.lt (.iv 0) (tlen (.cv 1)))).b = true := hpc.1
      rw [t_lt] at q
      change ρ.i 0 < ((ρ.c 1).length : Int) at q
      rw [E.c1, List.length_map, E.i0] at q
      omega
    have I1 := I.keep (fresh_keep H hw M1.only)
    have hw1 : w.heap.size ≤ w1.heap.size := Nat.le_trans hw M1.only.size
    have hmem : zs[k] ∈ zs := List.getElem_mem _
    have hg := H.good _ hmem
    have hblk : Blk w1 zs[k].1 137 (wC zs[k].2) := I1.bD _ (by rw [List.drop_eq_getElem_cons hk]; exact List.mem_cons_self ..)
    show (Sy.sub [1, 1] (waL Try.f42)).wp Try.prog (ctx Try.prog [1, 1] (waL Try.f42) _) a1 w1
    have M2 := Sy.Md.hi M1 30 (wC zs[k].2) wa_low
    have E2 : WaE zs most k T R (ρ.hi 30 (wC zs[k].2)) := ⟨E.good, E.i0, E.i1, E.i2, E.i3, E.i21, E.c1, E.c2, E.c3, E.c4, E.m0, E.m1⟩
    have hcs : ∀ β, denL (ρ.hi 30 (wC zs[k].2)) β foC = wC zs[k].2 := fun β => rfl
    generalize ρ.hi 30 (wC zs[k].2) = ρ2 at M2 E2 hcs
    obtain ⟨i30, i31, i32, b33, b34⟩ := foC_i hcs
    have hcx := E2.cx H.l16 I1.hk I1.len
    have hrow := row_wC hg
    have b0 := gI_bd (k := .i64) zs[k].2 0
    have M3 : Md ρ2 (fun i => i = zs[k].1 ∨ Sf w i) w1 β1 4 (waS2 Try.prog Try.f42) β1 a1 w1 := by
      refine ⟨M2.act, fun b hb => M2.hp b (by rw [hp1]; exact hb), fun x hx y hy => M2.ne x (by rw [hp1]; exact hx) y (by rw [hp1]; exact hy), fun b hb hrw hr i hi => ?_, ⟨fun z hz => ?_, fun t ht => ?_⟩, Only.refl _ _, fun _ _ => rfl⟩
      · rcases M2.may b (by rw [hp1]; exact hb) hrw hr i hi with q | q
        · exact .inl (.inr q)
        · exact .inl (.inr (Nat.le_trans hw q))
      · rcases List.mem_append.1 hz with hz | hz
        · refine bdsP_ok (l := foB3) ⟨?_, ?_, ?_, trivial⟩ z hz
          · show _ ≤ ρ2.i 30 ∧ ρ2.i 30 ≤ _
            rw [i30]; exact b0
          · show (0 : Int) ≤ ρ2.i 31 ∧ ρ2.i 31 ≤ 7
            rw [i31]; exact hrow.2
          · show (0 : Int) ≤ ρ2.i 32 ∧ ρ2.i 32 ≤ 7
            rw [i32]; exact ⟨hg.r0, hg.r1⟩
        · exact hcx.bs z hz
      · rcases List.mem_cons.1 ht with rfl | ht
        · rw [t_lt]
          show ρ2.i 0 < ((ρ2.c 1).length : Int)
          rw [E2.c1, List.length_map, E2.i0]
          omega
        · exact hcx.pc t ht
    have e0 : β1 0 = g := M1.old 0 (show 0 < 4 by decide)
    have e2 : β1 2 = arr := M1.old 2 (show 2 < 4 by decide)
    have e3 : β1 3 = cap := M1.old 3 (show 3 < 4 by decide)
    have hgt : (den ρ2 waFT).i.toNat = zs[k].1 := by
      show (getV .ptr (((ρ2.c 1).getD (ρ2.i 0).toNat []).getD 0 (.bool false))).i.toNat = _
      rw [wa_get E2 hk]
      show ((zs[k].1 : Nat) : Int).toNat = _
      exact Int.toNat_natCast _
    obtain ⟨β4, M4, e4⟩ := Sy.Md.focus M3 4 (Nat.le_refl _) (wa_free 4 (by decide) (by decide)) (wa_free 5 (by decide) (by decide)) (wa_free 6 (by decide) (by decide)) (wa_free 7 (by decide) (by decide)) true hgt hblk hcs (fun z hz hr hfz => by
      have hlt := H.lt _ hmem
      have fr : ∀ n i ty lv, (waB n i ty lv) ∈ waHp → (waB n i ty lv).real β1 → ¬ fp β1 (waB n i ty lv) zs[k].1 := fun n i ty lv hb hr hf => by
        have q := fp_one rfl hf
        rcases M3.may0 _ hb rfl hr with q2 | q2
        · rcases q2 with q2 | q2
          · have M3' := M2.may0 (waB n i ty lv) (by rw [hp1]; exact hb) rfl hr
            rcases M3' with q3 | q3
            · unfold Sf at q3; change w.heap.size ≤ β1 n at q3; change zs[k].1 = β1 n at q; omega
            · change w'.heap.size ≤ β1 n at q3; change zs[k].1 = β1 n at q; omega
          · unfold Sf at q2; change w.heap.size ≤ β1 n at q2; change zs[k].1 = β1 n at q; omega
        · change w1.heap.size ≤ β1 n at q2; change zs[k].1 = β1 n at q; omega
      change z ∈ [_, _, _, _, _] at hz
      simp only [List.mem_cons, List.not_mem_nil, or_false] at hz
      rcases hz with rfl | rfl | rfl | rfl | rfl
      · exact H.g0 _ hmem ((fp_one rfl hfz).trans e0)
      · exact fr 64 4 _ _ (List.mem_cons_of_mem _ (List.mem_cons_self ..)) hr hfz
      · exact fr 62 3 _ _ (List.mem_cons_of_mem _ (List.mem_cons_of_mem _ (List.mem_cons_self ..))) hr hfz
      · exact fr 60 2 _ _ (List.mem_cons_of_mem _ (List.mem_cons_of_mem _ (List.mem_cons_of_mem _ (List.mem_cons_self ..)))) hr hfz
      · have hc : cap ≠ 0 := fun e => (hr.resolve_left (by simp [arB, Bk.nilable, Xt.isTab])) (e3.trans e)
        exact H.a0 _ hmem hc ((fp_one rfl hfz).trans e2)) (fun _ => .inl (.inl rfl))
    have M4' : Md ρ2 (fun i => i = zs[k].1 ∨ Sf w i) w1 β4 8 (waF Try.prog Try.f42) β4 a1 w1 := ⟨M4.act, M4.hp, M4.ne, M4.may, M4.cx, M4.only, fun _ _ => rfl⟩
    refine seg_wp (r := waR2 Try.prog Try.f42) (T := waTE Try.prog Try.f42) rfl wa_run2 (fun ρ' => ∃ T' R', WaN zs most k T R hk T' R' ρ') (fun ρ' ⟨T', R', E', _, hc⟩ => ?_) E2.good (fun q hq => by cases hq) (wa_leaves E2 hk hg i30 i31 i32 b33 b34 rfl) (fun ρ' ⟨T', R', E', ⟨j30, j31, j32, j33⟩, hc⟩ β5 a5 w2 M5 => ?_) M4'
    · refine E'.cx H.l16 hk ?_
      have := I1.len
      rcases hc with ⟨_, rfl, rfl, _⟩ | ⟨_, rfl, rfl, _⟩ <;> rw [List.length_append, List.length_singleton] <;> omega
    · show ∃ j : Env, (zs.length - (j.i 0).toNat) < (zs.length - (ρ.i 0).toNat) ∧ WaJ zs most w g arr cap bs j a5 w2
      have hB : Blk w2 (β5 4) 137 (denL ρ' β5 foC5) := M5.hp _ (List.mem_cons_self ..)
      have q4 : β5 4 = zs[k].1 := (M5.old 4 (show 4 < 8 by decide)).trans e4
      have hd5 : denL ρ' β5 foC5 = [.int .i64 (gI .i64 zs[k].2 0), .int .i64 (mk4 (gI .i64 zs[k].2 1)), .int .i64 (gI .i64 zs[k].2 2), .bool (gB zs[k].2 3), .bool (ρ'.b 35)] := by
        show [Value.int .i64 (ρ'.i 30), .int .i64 (ρ'.i 31), .int .i64 (ρ'.i 32), .bool (ρ'.b 33), .bool (ρ'.b 35)] = _
        rw [j30, j31, j32, j33]
      rw [q4, hd5] at hB
      have ho : ∀ p ∈ zs, p.1 ≠ zs[k].1 → w2.heap[p.1]? = w1.heap[p.1]? := fun p hp hne => M5.only.block _ (Nat.lt_of_lt_of_le (H.lt p hp) hw1) (fun q => by
        rcases q with q | q
        · exact hne q
        · have := H.lt p hp; unfold Sf at q; omega)
      have hmk := wC_mk (a := gI .i64 zs[k].2 0) (m := gI .i64 zs[k].2 1) (r := gI .i64 zs[k].2 2) (gB zs[k].2 3) false b0 ⟨hg.m0, hg.m1⟩ ⟨hg.r0, hg.r1⟩
      have I5 : WaI zs most (k + 1) T' R' w2 := by
        rcases hc with ⟨hp, rfl, rfl, h35⟩ | ⟨hp, rfl, rfl, h35⟩
        · rw [h35] at hB
          exact I1.pass H.nd hk hp ho hB
        · rw [h35] at hB
          exact I1.tell H.nd hk hp ho (hB.cast hmk.1.symm)
      refine ⟨ρ', ?_, k + 1, T', R', E', I5, ?_, β5, ?_⟩
      · rw [E'.i0, E.i0, Int.toNat_natCast, Int.toNat_natCast]; omega
      · have h1 : Only (fun i => i ∈ polF g arr cap bs) w w1 := by
          refine ⟨M1.only.os.trans hO.os, M1.only.tape.trans hO.tape, M1.only.output.trans hO.output, hw1, fun i hi hn => ?_⟩
          exact (M1.only.block i (Nat.lt_of_lt_of_le hi hw) (fun q => by unfold Sf at q; omega)).trans (hO.block i hi hn)
        refine ⟨M5.only.os.trans h1.os, M5.only.tape.trans h1.tape, M5.only.output.trans h1.output, Nat.le_trans hw1 M5.only.size, fun i hi hn => ?_⟩
        exact (M5.only.block i (Nat.lt_of_lt_of_le hi hw1) (fun q => by
          rcases q with q | q
          · exact hn (q ▸ H.pol hmem)
          · unfold Sf at q; omega)).trans (h1.block i hi hn)
      · have hsub : ∀ b ∈ (waT Try.prog Try.f42).hp, b ∈ (waTE Try.prog Try.f42).hp := fun b hb => by rw [wa_hpT] at hb; exact List.mem_cons_of_mem _ hb
        refine ⟨M5.act, fun b hb => M5.hp b (hsub b hb), fun x hx y hy => M5.ne x (hsub x hx) y (hsub y hy), fun b hb hrw hr i hi => ?_, M5.cx, Only.refl _ _, fun l hl => ?_⟩
        · have h4 : (⟨4, 137, foC5, true, none, .no⟩ : Bk) ∈ (waTE Try.prog Try.f42).hp := List.mem_cons_self ..
          rcases M5.may b (hsub b hb) hrw hr i hi with q | q
          · rcases q with q | q
            · refine absurd hi (M5.ne _ h4 b (hsub b hb) (by
                rw [wa_hpT] at hb
                change b ∈ [_, _, _, _, _] at hb
                simp only [List.mem_cons, List.not_mem_nil, or_false] at hb
                rcases hb with rfl | rfl | rfl | rfl | rfl <;> decide) (.inl rfl) hr i (by rw [q, ← q4]; exact fp_root _ _))
            · exact .inl q
          · exact .inl (Nat.le_trans hw1 q)
        · exact (M5.old l (show l < 8 by omega)).trans ((M4.old l (by omega)).trans (M1.old l (show l < 4 from hl)))
  · intro hpc β1 a1 w1 M1
    have hk : k = zs.length := by
      have q : (den ρ (.not (.lt (.iv 0) (tlen (.cv 1))))).b = true := hpc.1
      rw [t_not, t_lt] at q
      change ¬ ρ.i 0 < ((ρ.c 1).length : Int) at q
      rw [E.c1, List.length_map, E.i0] at q
      have := I.hk
      omega
    subst hk
    have I1 := I.keep (fresh_keep H hw M1.only)
    refine ⟨trivial, hend ρ T R β1 a1 w' w1 hw E I1 ?_ M1⟩
    refine ⟨M1.only.os.trans hO.os, M1.only.tape.trans hO.tape, M1.only.output.trans hO.output, Nat.le_trans hw M1.only.size, fun i hi hn => ?_⟩
    exact (M1.only.block i (Nat.lt_of_lt_of_le hi hw) (fun q => by unfold Sf at q; omega)).trans (hO.block i hi hn)
end
end Go.Proofs.Ytnjpoidpfcfbeaa
/- The poller's Wait: its contract. -/
namespace Go.Proofs.Ytnjpoidpfcfbeaa
open Go.RowKit Sy
set_option linter.unusedVariables false
set_option linter.unusedSimpArgs false

/-- Pairs as a family. -/
theorem Fam.of_pairs {w : World} {ps : List PR'} (hnd : (ps.map (·.1)).Nodup) (hb : ∀ p ∈ ps, Blk w p.1 137 (wC p.2)) (hg : ∀ p ∈ ps, WRow p.2) : Fam w (ps.map (·.1)) (ps.map (·.2)) := by
  refine ⟨by rw [List.length_map, List.length_map], hnd, fun i hi => ?_, fun r hr => ?_⟩
  · rw [List.length_map] at hi
    have := hb ps[i] (List.getElem_mem _)
    have e1 : (ps.map (·.1)).getD i 0 = ps[i].1 := by rw [List.getD_eq_getElem?_getD, List.getElem?_map, List.getElem?_eq_getElem hi]; rfl
    have e2 : (ps.map (·.2)).getD i [] = ps[i].2 := by rw [List.getD_eq_getElem?_getD, List.getElem?_map, List.getElem?_eq_getElem hi]; rfl
    rw [e1, e2]
    exact this
  · obtain ⟨p, hp, rfl⟩ := List.mem_map.1 hr
    exact hg p hp
theorem toldR_ok {r : List Value} (h : WRow r) : WRow (toldR r) := (wC_mk (a := gI .i64 r 0) (m := gI .i64 r 1) (r := gI .i64 r 2) (gB r 3) false (gI_bd (k := .i64) r 0) ⟨h.m0, h.m1⟩ ⟨h.r0, h.r1⟩).2
section
variable {zs : List PR'} {most : Int} {w : World} {g arr cap : Nat} {bs : List Nat} {rows : List (List Value)}
/-- What Wait does. -/
def WaPost (w : World) (g arr cap : Nat) (bs : List Nat) (rows : List (List Value)) (most : Int) (v : Value) (w' : World) : Prop :=
  ∃ go co, v = .tuple #[sltV go co (waO rows most).length, .int .i64 (waC most)] ∧ RowT w' go co 78 wkLv (waO rows most) ∧ (co ≠ 0 → w.heap.size ≤ go) ∧
  ∃ arr' cap' bs', Pol w' g arr' cap' bs' (waR rows most) ∧ Only (fun i => i ∈ polF g arr cap bs) w w' ∧ (∀ i ∈ polF g arr' cap' bs', i ∈ polF g arr cap bs ∨ w.heap.size ≤ i) ∧ (co ≠ 0 → go ∉ polF g arr' cap' bs')
def Se (w : World) (g : Nat) (i : Nat) : Prop := i = g ∨ w.heap.size ≤ i
set_option maxRecDepth 100000 in
set_option maxHeartbeats 1000000 in
theorem wa_end (hP : Pol w g arr cap bs rows) (H : WaH w g arr cap bs zs) (hz2 : zs.map (·.2) = rows) (hm : ¬ most < 1) {ρ : Env} {T R : List PR'} {β : Bn} {a : Act} {w0 w1 : World} (hw : w.heap.size ≤ w0.heap.size) (E : WaE zs most zs.length T R ρ) (I : WaI zs most zs.length T R w1) (hO : Only (fun i => i ∈ polF g arr cap bs) w w1)
    (M : Md ρ (Sf w) w0 (poN g arr cap bs) 4 (lfAt (waR1 Try.prog Try.f42) 1) β a w1) : ctx Try.prog waP (bodyOf Try.f42) (bodyPost Try.prog Try.f42 (RetP (WaPost w g arr cap bs rows most))) (.exit 0) a w1 := by
  obtain ⟨hp1, hp2⟩ := Prod.mk.inj wa_hp1
  have hw1 := hO.size
  have e0 : β 0 = g := M.old 0 (show 0 < 4 by decide)
  have e2 : β 2 = arr := M.old 2 (show 2 < 4 by decide)
  have e3 : β 3 = cap := M.old 3 (show 3 < 4 by decide)
  have hsub : ∀ b ∈ (waX Try.prog Try.f42).hp, b = ptB true ∨ b ∈ (lfAt (waR1 Try.prog Try.f42) 1).hp := fun b hb => by
    rw [hp2]
    change b ∈ [_, _, _, _, _] at hb
    simp only [List.mem_cons, List.not_mem_nil, or_false] at hb
    rcases hb with rfl | rfl | rfl | rfl | rfl
    · exact .inl rfl
    · exact .inr (List.mem_cons_of_mem _ (List.mem_cons_of_mem _ (List.mem_cons_of_mem _ (List.mem_cons_of_mem _ (List.mem_cons_self ..)))))
    · exact .inr (List.mem_cons_of_mem _ (List.mem_cons_self ..))
    · exact .inr (List.mem_cons_of_mem _ (List.mem_cons_of_mem _ (List.mem_cons_self ..)))
    · exact .inr (List.mem_cons_of_mem _ (List.mem_cons_of_mem _ (List.mem_cons_of_mem _ (List.mem_cons_self ..))))
  have hp0 : ptB false ∈ (lfAt (waR1 Try.prog Try.f42) 1).hp := by rw [hp2]; exact List.mem_cons_self ..
  have M2 : Md ρ (Se w g) w1 β 4 (waX Try.prog Try.f42) β a w1 := by
    refine ⟨M.act, fun b hb => ?_, fun x hx y hy hxy hrx hry => ?_, fun b hb hrw hr i hi => ?_, E.cx H.l16 (Nat.le_refl _) I.len, Only.refl _ _, fun _ _ => rfl⟩
    · rcases hsub b hb with rfl | hb
      · exact M.hp (ptB false) hp0
      · exact M.hp b hb
    · rcases hsub x hx with rfl | hx' <;> rcases hsub y hy with rfl | hy'
      · exact absurd rfl hxy
      · exact (M.ne (ptB false) hp0 y hy' hxy (.inl rfl) hry).like rfl rfl rfl rfl
      · exact (M.ne x hx' (ptB false) hp0 hxy hrx (.inl rfl)).like rfl rfl rfl rfl
      · exact M.ne x hx' y hy' hxy hrx hry
    · rcases hsub b hb with rfl | hb
      · exact .inl (.inl ((fp_one rfl hi).trans e0))
      · rcases M.may b hb hrw hr i hi with q | q
        · exact .inl (.inr q)
        · exact .inl (.inr (Nat.le_trans hw q))
  refine aft_fin (B := ⟨ρ, Se w g, w1, β, 4⟩) (sp := []) (lim := 10) (fuel := 400) E.good (fun q hq => by cases hq) rfl (.exit 0) wa_run3 ⟨?_, trivial⟩ M2
  intro _ βf w2 hH
  have hwt := I.fin
  have hS := wtP_map most zs 0
  rw [hz2, hwt] at hS
  have ho : (waO rows most) = T.map fun p => wakeR p.2 := by
    unfold waO
    rw [if_neg hm, hS, List.map_map]
    rfl
  have b70 : (⟨70, 135, [], true, none, .tab [.ptr] (.tb .app (.cv 4) (.cv 3) (.il 0))⟩ : Bk) ∈ [⟨70, 135, [], true, none, .tab [.ptr] (.tb .app (.cv 4) (.cv 3) (.il 0))⟩, ⟨0, 134, [.slt 70 1 (.il 0) (.add (tlen (.cv 4)) (tlen (.cv 3))) (.il 0)], true, none, .no⟩, arB false (.cv 1), waB 60 2 78 wkLv] := List.mem_cons_self ..
  have b0 : (⟨0, 134, [.slt 70 1 (.il 0) (.add (tlen (.cv 4)) (tlen (.cv 3))) (.il 0)], true, none, .no⟩ : Bk) ∈ [⟨70, 135, [], true, none, .tab [.ptr] (.tb .app (.cv 4) (.cv 3) (.il 0))⟩, ⟨0, 134, [.slt 70 1 (.il 0) (.add (tlen (.cv 4)) (tlen (.cv 3))) (.il 0)], true, none, .no⟩, arB false (.cv 1), waB 60 2 78 wkLv] := List.mem_cons_of_mem _ (List.mem_cons_self ..)
  have b60 : waB 60 2 78 wkLv ∈ [⟨70, 135, [], true, none, .tab [.ptr] (.tb .app (.cv 4) (.cv 3) (.il 0))⟩, ⟨0, 134, [.slt 70 1 (.il 0) (.add (tlen (.cv 4)) (tlen (.cv 3))) (.il 0)], true, none, .no⟩, arB false (.cv 1), waB 60 2 78 wkLv] := List.mem_cons_of_mem _ (List.mem_cons_of_mem _ (List.mem_cons_of_mem _ (List.mem_cons_self ..)))
  have k0 : βf 0 = g := (hH.old 0 (show 0 < 4 by decide)).trans e0
  have hT : RowT w2 (βf 70) (βf 71) 135 [.ptr] (ρ.c 4 ++ ρ.c 3) := hH.hp _ b70
  have hOb : Blk w2 (βf 0) 134 [sltZ (βf 70) (βf 71) 1 0 (((ρ.c 4).length : Int) + ((ρ.c 3).length : Int)).toNat 0] := hH.hp _ b0
  have hK : RowT w2 (βf 60) (βf 61) 78 wkLv (ρ.c 2) := hH.hp _ b60
  -- the watches, in their new order
  obtain ⟨ps, hps⟩ : ∃ ps : List PR', ps = R ++ T.map fun p => (p.1, toldR p.2) := ⟨_, rfl⟩
  have hperm : (R ++ T).Perm zs := by have := wtP_perm most zs 0; rw [hwt] at this; exact this
  have hf1 : ps.map (·.1) = (R ++ T).map (·.1) := by rw [hps, List.map_append, List.map_append, List.map_map]; rfl
  have hmemz : ∀ p, p ∈ R ∨ p ∈ T → p ∈ zs := fun p hp => hperm.mem_iff.1 (List.mem_append.2 hp)
  have hk2 : ∀ p ∈ zs, w2.heap[p.1]? = w1.heap[p.1]? := fun p hp => hH.only.block _ (Nat.lt_of_lt_of_le (H.lt p hp) hw1) (fun q => by
    rcases q with q | q
    · exact H.g0 p hp q
    · have := H.lt p hp; omega)
  have hFam : Fam w2 (ps.map (·.1)) (ps.map (·.2)) := by
    refine Fam.of_pairs ?_ (fun p hp => ?_) (fun p hp => ?_)
    · rw [hf1]; exact (hperm.map (·.1)).nodup_iff.2 H.nd
    · rw [hps] at hp
      rcases List.mem_append.1 hp with hp | hp
      · exact (hk2 p (hmemz p (.inl hp))).trans (I.bR p hp)
      · obtain ⟨q, hq, rfl⟩ := List.mem_map.1 hp
        exact (hk2 q (hmemz q (.inr hq))).trans (I.bT q hq)
    · rw [hps] at hp
      rcases List.mem_append.1 hp with hp | hp
      · exact H.good p (hmemz p (.inl hp))
      · obtain ⟨q, hq, rfl⟩ := List.mem_map.1 hp
        exact toldR_ok (H.good q (hmemz q (.inr hq)))
  have hlen : ps.length = zs.length := by rw [← hperm.length_eq, hps]; simp
  have hc43 : ρ.c 4 ++ ρ.c 3 = (ps.map (·.1)).map pr := by rw [E.c4, E.c3, hf1, List.map_map, List.map_append]; rfl
  have hsz : (((ρ.c 4).length : Int) + ((ρ.c 3).length : Int)).toNat = (ps.map (·.1)).length := by
    have := congrArg List.length hc43
    rw [List.length_append, List.length_map] at this
    omega
  rw [hc43] at hT
  rw [hsz, sltZ_zero, k0] at hOb
  rw [E.c2, ← ho] at hK
  have hmb : ∀ i, i ∈ ps.map (·.1) → ∃ p ∈ zs, p.1 = i := fun i hi => by
    rw [hf1] at hi
    obtain ⟨p, hp, e⟩ := List.mem_map.1 hi
    exact ⟨p, hperm.mem_iff.1 hp, e⟩
  have hrows : ps.map (·.2) = waR rows most := by
    unfold waR
    rw [if_neg hm, hS, hps, List.map_append, List.map_map, List.map_map]
    rfl
  have hge : ∀ l, Se w g (βf l) ∨ w1.heap.size ≤ βf l → βf l ≠ βf 0 → w.heap.size ≤ βf l := fun l h hne => by
    rcases h with h | h
    · rcases h with h | h
      · exact absurd (h.trans k0.symm) hne
      · exact h
    · omega
  have n70 : βf 71 ≠ 0 → βf 70 ≠ βf 0 := fun hc => hH.neq _ b70 _ b0 (by decide) (.inr hc) (.inl rfl)
  have f70 : βf 71 ≠ 0 → w.heap.size ≤ βf 70 := fun hc => hge 70 (hH.may0 _ b70 rfl (.inr hc)) (n70 hc)
  have n60 : βf 61 ≠ 0 → βf 60 ≠ βf 0 := fun hc => hH.neq _ b60 _ b0 (by decide) (.inr hc) (.inl rfl)
  have f60 : βf 61 ≠ 0 → w.heap.size ≤ βf 60 := fun hc => hge 60 (hH.may0 _ b60 rfl (.inr hc)) (n60 hc)
  have hPol : Pol w2 g (βf 70) (βf 71) (ps.map (·.1)) (ps.map (·.2)) := by
    refine ⟨hFam, by rw [List.length_map, hlen]; exact H.l16, hOb, hT, fun q => ?_, fun hc => ⟨fun q => ?_, fun q => n70 hc (q.trans k0.symm)⟩⟩
    · obtain ⟨p, hp, e⟩ := hmb _ q
      exact H.g0 p hp e
    · obtain ⟨p, hp, e⟩ := hmb _ q
      have := H.lt p hp
      have := f70 hc
      omega
  rw [hrows] at hPol
  refine ⟨βf 60, βf 61, ?_, hK, f60, βf 70, βf 71, ps.map (·.1), hPol, ?_, fun i hi => ?_, fun hc hi => ?_⟩
  · show Value.tuple #[sltZ (βf 60) (βf 61) 2 0 (ρ.i 1).toNat 0, .int .i64 0] = _
    rw [sltZ_zero, E.i1, Int.toNat_natCast]
    have : waC most = 0 := if_neg hm
    rw [this, ho, List.length_map]
  · refine ⟨hH.only.os.trans hO.os, hH.only.tape.trans hO.tape, hH.only.output.trans hO.output, Nat.le_trans hw1 hH.only.size, fun i hi hn => ?_⟩
    exact (hH.only.block i (Nat.lt_of_lt_of_le hi hw1) (fun q => by
      rcases q with q | q
      · exact hn (q ▸ polF_mem.2 (.inl rfl))
      · omega)).trans (hO.block i hi hn)
  · rcases polF_mem.1 hi with rfl | ⟨hc, rfl⟩ | hm'
    · exact .inl (polF_mem.2 (.inl rfl))
    · exact .inr (f70 hc)
    · obtain ⟨p, hp, rfl⟩ := hmb _ hm'
      exact .inl (H.pol hp)
  · rcases polF_mem.1 hi with q | ⟨hc', q⟩ | hm'
    · exact n60 hc (q.trans k0.symm)
    · exact hH.neq _ b60 _ b70 (by decide) (.inr hc) (.inr hc') q
    · obtain ⟨p, hp, e⟩ := hmb _ hm'
      have := H.lt p hp
      have := f60 hc
      omega
def waE0 (bs : List Nat) (most : Int) : Env := { mkEnv0 [] [] [] [] with
  i := fun n => if n = 21 then most else 0
  c := fun n => if n = 1 then bs.map pr else [] }
set_option maxRecDepth 100000 in
/-- Wait. -/
theorem wai_calls (h : Pol w g arr cap bs rows) (hm0 : -9223372036854775808 ≤ most) (hm1 : most ≤ 9223372036854775807) :
    Calls Try.prog 42 #[.pointer (some ⟨g, 0, none⟩), .int .i64 most] w (RetP (WaPost w g arr cap bs rows most)) := by
  have hl := h.fam.len
  have l16 := h.l16
  have hlt : ∀ i, i < bs.length → bs.getD i 0 ∈ bs := fun i hi => by rw [List.getD_eq_getElem?_getD, List.getElem?_eq_getElem hi]; exact List.getElem_mem _
  obtain ⟨zs, hzs⟩ : ∃ zs : List PR', zs = bs.zip rows := ⟨_, rfl⟩
  have e1 : zs.map (·.1) = bs := by rw [hzs]; exact List.map_fst_zip (by omega)
  have e2 : zs.map (·.2) = rows := by rw [hzs]; exact List.map_snd_zip (by omega)
  have hzl : zs.length = rows.length := by rw [← e2, List.length_map]
  have hget : ∀ p ∈ zs, ∃ i, i < rows.length ∧ p = (bs.getD i 0, rows.getD i []) := fun p hp => by
    obtain ⟨i, hi, e⟩ := List.getElem_of_mem hp
    refine ⟨i, by omega, ?_⟩
    subst hzs
    rw [← e, List.getElem_zip, List.getD_eq_getElem?_getD, List.getD_eq_getElem?_getD, List.getElem?_eq_getElem (by rw [hl]; omega), List.getElem?_eq_getElem (by omega)]
    rfl
  have hblk : ∀ p ∈ zs, Blk w p.1 137 (wC p.2) := fun p hp => by
    obtain ⟨i, hi, rfl⟩ := hget p hp
    exact h.fam.blk i hi
  have hmem1 : ∀ p ∈ zs, p.1 ∈ bs := fun p hp => e1 ▸ List.mem_map.2 ⟨p, hp, rfl⟩
  have H : WaH w g arr cap bs zs := ⟨e1, e1 ▸ h.fam.nd, fun p hp => h.fam.good _ (e2 ▸ List.mem_map.2 ⟨p, hp, rfl⟩), fun p hp => h.fam.lt (hmem1 p hp), fun p hp q => h.g0 (q ▸ hmem1 p hp), fun p hp hc q => (h.a0 hc).1 (q ▸ hmem1 p hp), by omega⟩
  have hE0 : WaE zs most 0 [] [] (waE0 bs most) := ⟨fun i => rfl, rfl, rfl, rfl, rfl, rfl, by show bs.map pr = _; rw [← e1, List.map_map]; rfl, rfl, rfl, rfl, hm0, hm1⟩
  have hM0 : Md (waE0 bs most) (Sf w) w (poN g arr cap bs) 4 wa0 (poN g arr cap bs) ⟨#[], []⟩ w := by
    refine Sy.Md.init ⟨?_, ?_, trivial⟩ ⟨⟨fun _ hr => ?_, trivial⟩, trivial, trivial⟩ ⟨fun h => (by cases h), fun h => (by cases h), trivial⟩ ⟨hE0.bds H.l16, fun t ht => by cases ht⟩ rfl
    · show Blk w g 134 [sltZ arr cap 1 0 (((bs.map pr).length : Int)).toNat 0]
      rw [sltZ_zero, List.length_map, Int.toNat_natCast]
      exact h.obj
    · exact h.tab
    · exact apart.of rfl rfl (h.a0 (hr.resolve_left (by simp [arB, Bk.nilable, Xt.isTab]))).2.symm
  refine calls_pre (B := ⟨waE0 bs most, Sf w, w, poN g arr cap bs, 4⟩) (sp := []) (p := waP) (xs := waA) (s := wa0) (r := waR0 Try.prog Try.f42) hE0.good (fun q hq => by cases hq) rfl Try.func42 rfl rfl wa_run0 hM0 ⟨?_, ?_, trivial⟩ rfl
  · intro hpc β a w1 M1
    have hm : most < 1 := by
      have := hpc.1
      rw [t_lt] at this
      exact this
    refine ret_post (B := ⟨waE0 bs most, Sf w, w, poN g arr cap bs, 4⟩) M1 (retsB_ok wa_ret0 rfl) ?_
    have ho : ∀ i ∈ polF g arr cap bs, w1.heap[i]? = w.heap[i]? := fun i hi => M1.only.block i (h.lt hi) (fun q => by have := h.lt hi; unfold Sf at q; omega)
    refine ⟨0, 0, ?_, ⟨fun hc => absurd rfl hc, ?_, fun r hr => ?_⟩, fun hc => absurd rfl hc, arr, cap, bs, ?_, ?_, fun i hi => .inl hi, fun hc => absurd rfl hc⟩
    · show Value.tuple #[.slice none 0 0, .int .i64 1] = _
      have : waC most = 1 := if_pos hm
      rw [this]
      unfold waO
      rw [if_pos hm]
      rfl
    · unfold waO; rw [if_pos hm]; exact Nat.le_refl _
    · unfold waO at hr; rw [if_pos hm] at hr; cases hr
    · unfold waR; rw [if_pos hm]; exact h.keep ho
    · exact ⟨M1.only.os, M1.only.tape, M1.only.output, M1.only.size, fun i hi _ => M1.only.block i hi (fun q => by unfold Sf at q; omega)⟩
  · intro hpc β a w1 M1
    have hm : ¬ most < 1 := by
      have := hpc.1
      rw [t_not, t_lt] at this
      exact this
    show (Sy.sub waP (bodyOf Try.f42)).wp Try.prog (ctx Try.prog waP (bodyOf Try.f42) _) a w1
    rw [wa_loop]
    have fr := wa_fr
    simp only [Bool.and_eq_true] at fr
    obtain ⟨⟨⟨f60, f61⟩, f62, f63⟩, f64, f65⟩ := fr
    obtain ⟨β2, M2⟩ := Sy.Md.tabSlot M1 6 60 78 wkLv (show 4 ≤ 60 by decide) f60 f61
    obtain ⟨β3, M3⟩ := Sy.Md.tabSlot M2 7 62 135 [.ptr] (show 4 ≤ 62 by decide) f62 f63
    obtain ⟨β4, M4⟩ := Sy.Md.tabSlot M3 8 64 135 [.ptr] (show 4 ≤ 64 by decide) f64 f65
    have hE1 : ∀ u, WaE zs most 0 [] [] { (waE0 bs most).sub β4 [.i 1 (.il 0), .i 2 (.il 0), .i 3 (.il 0), .i 0 (.il 0), .c 4 tn, .c 3 tn, .c 2 tn] with u := u } := fun u => ⟨hE0.good, rfl, rfl, rfl, rfl, hE0.i21, hE0.c1, rfl, rfl, rfl, hm0, hm1⟩
    obtain ⟨u, β5, M5⟩ := Sy.Md.enter M4 wa_match (fun u => (hE1 u).cx H.l16 (Nat.zero_le _) rfl)
    have hk1 : ∀ p ∈ zs, w1.heap[p.1]? = w.heap[p.1]? := fun p hp => M1.only.block _ (H.lt p hp) (fun q => by have := H.lt p hp; unfold Sf at q; omega)
    have hJ : WaJ zs most w g arr cap bs { (waE0 bs most).sub β4 [.i 1 (.il 0), .i 2 (.il 0), .i 3 (.il 0), .i 0 (.il 0), .c 4 tn, .c 3 tn, .c 2 tn] with u := u } a w1 := by
      refine ⟨0, [], [], hE1 u, WaI.start most fun p hp => (hk1 p hp).trans (hblk p hp), ?_, β5, ?_⟩
      · exact ⟨M1.only.os, M1.only.tape, M1.only.output, M1.only.size, fun i hi _ => M1.only.block i hi (fun q => by unfold Sf at q; omega)⟩
      · exact ⟨M5.act, M5.hp, M5.ne, fun b hb hrw hr i hi => .inl ((M5.may b hb hrw hr i hi).elim (fun q => q) (fun q => q)), M5.cx, Only.refl _ _, M5.old⟩
    refine wp_loop_ix (ι := Env) (WaJ zs most w g arr cap bs) (fun j => zs.length - (j.i 0).toNat) (fun j a w' hJ => wa_round H (fun ρ T R β a w0 w1 hw E I hO M => wa_end h H e2 hm hw E I hO M) hJ) _ hJ
end
end Go.Proofs.Ytnjpoidpfcfbeaa
