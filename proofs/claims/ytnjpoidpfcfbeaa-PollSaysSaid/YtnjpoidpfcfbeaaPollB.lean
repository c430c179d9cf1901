/- The poller's Set: a socket that is looked after already. -/
import Derived.Test.YtnjpoidpfcfbeaaPollA
namespace Go.Proofs.Ytnjpoidpfcfbeaa
open Go.RowKit Sy
set_option linter.unusedVariables false
set_option linter.unusedSimpArgs false

theorem gI_lit {a : Int} {l : List Value} {i : Nat} (h : l.getD i (.bool false) = .int .i64 a) (h0 : -9223372036854775808 ≤ a) (h1 : a ≤ 9223372036854775807) : gI .i64 l i = a := by
  unfold gI
  rw [h]
  exact wrap_in h0 h1
/-- A watch's cells, of numbers. -/
theorem wC_mk {a m r : Int} (e f : Bool) (ha : -9223372036854775808 ≤ a ∧ a ≤ 9223372036854775807) (hm : 0 ≤ m ∧ m ≤ 7) (hr : 0 ≤ r ∧ r ≤ 7) :
    wC [.int .i64 a, .int .i64 m, .int .i64 r, .bool e, .bool f] = [.int .i64 a, .int .i64 (mk4 m), .int .i64 r, .bool e, .bool f] ∧ WRow [.int .i64 a, .int .i64 m, .int .i64 r, .bool e, .bool f] := by
  have e0 : gI .i64 [.int .i64 a, .int .i64 m, .int .i64 r, .bool e, .bool f] 0 = a := gI_lit rfl ha.1 ha.2
  have e1 : gI .i64 [.int .i64 a, .int .i64 m, .int .i64 r, .bool e, .bool f] 1 = m := gI_lit rfl (by omega) (by omega)
  have e2 : gI .i64 [.int .i64 a, .int .i64 m, .int .i64 r, .bool e, .bool f] 2 = r := gI_lit rfl (by omega) (by omega)
  refine ⟨by unfold wC; rw [e0, e1, e2]; rfl, ⟨⟨⟨_, rfl, wf_of ha.1 ha.2⟩, ⟨_, rfl, wf_of (show (-9223372036854775808 : Int) ≤ _ by omega) (show _ ≤ (9223372036854775807 : Int) by omega)⟩, ⟨_, rfl, wf_of (show (-9223372036854775808 : Int) ≤ _ by omega) (show _ ≤ (9223372036854775807 : Int) by omega)⟩, ⟨_, rfl⟩, ⟨_, rfl⟩, trivial⟩, ?_, ?_, ?_, ?_⟩⟩
  · rw [e1]; exact hm.1
  · rw [e1]; exact hm.2
  · rw [e2]; exact hr.1
  · rw [e2]; exact hr.2
theorem m8 (x : Int) : 0 ≤ x % 8 ∧ x % 8 ≤ 7 := by omega
/-- The letters of the watch that was brought out. -/
theorem foC_i {ρ : Env} {r : List Value} (h : ∀ β, denL ρ β foC = wC r) : ρ.i 30 = gI .i64 r 0 ∧ ρ.i 31 = mk4 (gI .i64 r 1) ∧ ρ.i 32 = gI .i64 r 2 ∧ ρ.b 33 = gB r 3 ∧ ρ.b 34 = gB r 4 := by
  have h := h fun _ => 0
  change [Value.int .i64 (ρ.i 30), .int .i64 (ρ.i 31), .int .i64 (ρ.i 32), .bool (ρ.b 33), .bool (ρ.b 34)] = [_, _, _, _, _] at h
  injection h with h0 h
  injection h with h1 h
  injection h with h2 h
  injection h with h3 h
  injection h with h4 _
  injection h0 with _ h0
  injection h1 with _ h1
  injection h2 with _ h2
  injection h3 with h3
  injection h4 with h4
  exact ⟨h0, h1, h2, h3, h4⟩
def po0 : Sy.St := ⟨[], [ownB], ⟨poBs', []⟩, 40⟩
def poFo (s : Sy.St) : Sy.St := St.focus { s with hp := [ptB false, arB false (.cv 1)], cx := foCx } 4 137 foC true fdT

/-! Set. -/
def seA : List SV := [.one (.c (.ptr 0 0)), .one (.c (.int .i64 (.iv 20))), .one (.c (.int .i64 (.iv 21))), .one (.c (.bool (.bv 20)))]
def seP : List Nat := [1, 1, 1]
def seR0 (P : Program) (fn : Func) : Rs := run P [patSp] 10 400 4 (.code (pre seP (bodyOf fn))) (enterS fn seA po0)
def seT (P : Program) (fn : Func) : Sy.St := tplK (lfAt (seR0 P fn) 1) [0, 1, 2, 3] [(9, .one (.c (.int .i64 (.iv 22))))] [] ⟨poBs', []⟩ 40
def seRA (P : Program) (fn : Func) : Rs := run P [] 10 400 8 (.code (Sy.sub seP (bodyOf fn))) (poFo (seT P fn))
def seC' : List C := [.int .i64 (.iv 30), .int .i64 (.bop .or .i64 (.bop .and .i64 (.iv 21) (.il 7)) (.il 4)), .int .i64 (.iv 32), .bool (.bv 20), .bool (.bl true)]
def foHp (cs : List C) : List Bk := [⟨4, 137, cs, true, none, .no⟩, ⟨6, 0, [.ptr 4 0], false, none, .al fdT⟩, ptB false, arB false (.cv 1)]
set_option maxRecDepth 100000 in
theorem se_run0 : shR 4 none (seR0 Try.prog Try.f36) = some [.out 0 .ret [.le (.il 16) (.iv 20), .not (.lt (.iv 20) (.il 0))], .out 1 .normal [.not (.le (.il 16) (.iv 20)), .not (.lt (.iv 20) (.il 0))], .out 2 .ret [.lt (.iv 20) (.il 0)]] := by kernel_rfl
set_option maxRecDepth 100000 in
theorem se_ret0 : retsB Try.prog Try.f36 (seR0 Try.prog Try.f36) (.one (.c (.int .i64 (.il 1)))) [0, 2] = true := by kernel_rfl
set_option maxRecDepth 100000 in
theorem se_own0 : (find 0 (lfAt (seR0 Try.prog Try.f36) 0).hp, find 0 (lfAt (seR0 Try.prog Try.f36) 2).hp) = (some ownB, some ownB) := by kernel_rfl
set_option maxRecDepth 100000 in
theorem se_match : (matchS 4 (seT Try.prog Try.f36) (lfAt (seR0 Try.prog Try.f36) 1)).map noU = some [.i 22 (.ap 7 (.cv 0) (.iv 20) (.il 0))] := by kernel_rfl
set_option maxRecDepth 100000 in
theorem se_low : lowSt 30 (seT Try.prog Try.f36) = true := by kernel_rfl
set_option maxRecDepth 100000 in
theorem se_free : ∀ n, 4 ≤ n → n < 8 → ({ seT Try.prog Try.f36 with hp := [ptB false, arB false (.cv 1)], cx := foCx } : Sy.St).free n = true := by
  intro n h1 h2
  obtain rfl | rfl | rfl | rfl : n = 4 ∨ n = 5 ∨ n = 6 ∨ n = 7 := by omega
  all_goals kernel_rfl
set_option maxRecDepth 100000 in
theorem se_runA : smR Try.prog Try.f36 8 (seRA Try.prog Try.f36) = some [.ret (.one (.c (.int .i64 (.il 0)))) (foHp seC') [.le (.il 0) (.iv 22), .lt (.iv 22) (tlen (.cv 1))]] := by kernel_rfl
section
variable {arr cap : Nat} {bs : List Nat} {rows : List (List Value)} {x y : Int} {e : Bool} {w w1 : World} {g : Nat}
theorem po_same (h : Pol w1 g arr cap bs rows) (ho : Only (fun i => i ∈ polF g arr cap bs) w w1) : PolGo w w1 g arr cap bs rows := ⟨arr, cap, bs, h, ho, fun i hi => .inl hi⟩
theorem po_turned (hw : w.heap.size ≤ w1.heap.size) (h : Pol w1 g arr cap bs rows) (ho : Only (fun i => i ∈ polF g arr cap bs) w w1) {k : Nat} (hk : k < rows.length) {r' : List Value} (hr : WRow r') {w2 : World} (ho2 : Only (fun i => i = bs.getD k 0) w1 w2) (h3 : Blk w2 (bs.getD k 0) 137 (wC r')) : PolGo w w2 g arr cap bs (rows.set k r') := by
  have hl := h.fam.len
  have hkb : k < bs.length := by omega
  have hmb : bs.getD k 0 ∈ bs := by rw [List.getD_eq_getElem?_getD, List.getElem?_eq_getElem hkb]; exact List.getElem_mem _
  exact ⟨arr, cap, bs, h.turned hk hr ho2 h3, ho.trans (ho2.mono fun i _ hi => polF_mem.2 (.inr (.inr (hi ▸ hmb)))), fun i hi => .inl hi⟩
/-- What Set does. -/
def SePost (w : World) (g arr cap : Nat) (bs : List Nat) (rows : List (List Value)) (x y : Int) (e : Bool) (v : Value) (w' : World) : Prop := v = .int .i64 (setC rows x) ∧ PolGo w w' g arr cap bs (setR rows x y e)
set_option maxRecDepth 100000 in
theorem se_A {ρ : Env} (I : PoI arr cap bs rows x y e ρ) (h : Pol w1 g arr cap bs rows) (hfd : 0 ≤ x ∧ x < 16) {k : Nat} (hk : k < rows.length) (hix : ixOf (isFd x) rows = (k : Int)) (h22 : ρ.i 22 = (k : Int)) {β : Bn} {a : Act} (hM : Md ρ (fun i => i ∈ polF g arr cap bs) w (poN g arr cap bs) 4 (seT Try.prog Try.f36) β a w1) :
    (Sy.sub seP (bodyOf Try.f36)).wp Try.prog (bodyPost Try.prog Try.f36 (RetP (SePost w g arr cap bs rows x y e))) a w1 := by
  obtain ⟨ρ', β', I', h22', hcs, hβ', h4, M⟩ := po_focus h I hk h22 hM.old se_low se_free hM
  obtain ⟨i30, i31, i32, b33, b34⟩ := foC_i hcs
  refine tail_fin (B := ⟨ρ', fun i => i = bs.getD k 0, w1, β', 8⟩) (sp := []) (lim := 10) (fuel := 400) I'.good (fun q hq => by cases hq) se_runA ⟨?_, trivial⟩ M
  intro hpc β2 w2 hH
  have hnx : ¬ (x < 0 ∨ 16 ≤ x) := by omega
  have hnk : ¬ ixOf (isFd x) rows < 0 := by omega
  refine ⟨?_, ?_⟩
  · show Value.int .i64 0 = _
    unfold setC
    rw [if_neg hnx, if_neg fun q => hnk q.1]
  · have hB : Blk w2 (β2 4) 137 (denL ρ' β2 seC') := hH.hp _ (List.mem_cons_self ..)
    have e4 : β2 4 = bs.getD k 0 := (hH.old 4 (show 4 < 8 by decide)).trans h4
    have hmem : rows.getD k [] ∈ rows := by rw [List.getD_eq_getElem?_getD, List.getElem?_eq_getElem hk]; exact List.getElem_mem _
    have hgood := h.fam.good _ hmem
    have hmk := wC_mk (a := gI .i64 (rows.getD k []) 0) (m := y % 8) (r := gI .i64 (rows.getD k []) 2) e true (gI_bd (k := .i64) _ 0) (m8 y) ⟨hgood.r0, hgood.r1⟩
    have hden : denL ρ' β2 seC' = wC (seR (rows.getD k []) y e) := by
      refine Eq.trans ?_ hmk.1.symm
      show [Value.int .i64 (ρ'.i 30), .int .i64 (bits .or .i64 (bits .and .i64 (ρ'.i 21) 7) 4), .int .i64 (ρ'.i 32), .bool (ρ'.b 20), .bool true] = _
      rw [i30, i32, I'.i21, I'.b20, band7, bor4 (m8 y).1 (m8 y).2]
    rw [e4, hden] at hB
    have := po_turned hM.only.size h hM.only hk hmk.2 hH.only hB
    unfold setR
    rw [if_neg hnx, if_neg hnk, hix, Int.toNat_natCast]
    exact this
end
end Go.Proofs.Ytnjpoidpfcfbeaa
/- The poller's Set: one more; its contract. -/
namespace Go.Proofs.Ytnjpoidpfcfbeaa
open Go.RowKit Sy
set_option linter.unusedVariables false
set_option linter.unusedSimpArgs false

/-- A slot told anew. -/
theorem Md.retell {ρ : Env} {S : Nat → Prop} {w0 w : World} {β0 β : Bn} {n0 : Nat} {s : Sy.St} {a : Act} (hM : Md ρ S w0 β0 n0 s β a w) (d : Nat) (v : SV) (h : v.den ρ β = (s.tm.getD d undS).den ρ β) : Md ρ S w0 β0 n0 { s with tm := s.tm.set d v } β a w :=
  ⟨by rw [hM.act]; show (⟨_, []⟩ : Act) = ⟨((s.tm.set d v).map (SV.den ρ β)).toArray, []⟩; rw [set_getD_map (SV.den ρ β) undS s.tm d v h], hM.hp, hM.ne, hM.may, hM.cx, hM.only, hM.old⟩
def codA : Code → Code
  | .cond _ a _ => a
  | c => c
def codC : Code → Operand
  | .cond x _ _ => x
  | _ => default
def opsL : Code → List Oper
  | .region _ ops _ => ops.toList
  | _ => []
def seSB (P : Program) (fn : Func) : Sy.St := { seT P fn with hp := [ptB true, arB true (.cv 1)], cx := ⟨⟨.iv 22, -1, -1⟩ :: poBs', []⟩ }
def seRe (fn : Func) : Code := Sy.sub seP (bodyOf fn)
def seBA (fn : Func) : Code := codA (Sy.sub [0, 1] (seRe fn))
def seR1 (P : Program) (fn : Func) : Rs := run P [] 10 400 4 (.code (pre [0, 1] (seRe fn))) (seSB P fn)
def seR2 (P : Program) (fn : Func) : Rs := run P [] 10 400 4 (.code (pre [1, 1] (seBA fn))) (lfAt (seR1 P fn) 0)
def seO1 (fn : Func) : List Oper := (opsL (Sy.sub [1, 1] (seBA fn))).take 8
def seO2 (fn : Func) : List Oper := (opsL (Sy.sub [1, 1] (seBA fn))).drop 8
def seS3 (P : Program) (fn : Func) : Sy.St := (opsSt P [] 10 400 4 (seO1 fn) (lfAt (seR2 P fn) 1)).getD default
def neC : List C := [.int .i64 (.iv 20), .int .i64 (.il 0), .int .i64 (.il 0), .bool (.bl false), .bool (.bl false)]
def neHp : List Bk := [⟨40, 137, neC, true, none, .no⟩, ptB true, arB true (.cv 1)]
def neCx : Cx := ⟨⟨.iv 22, -1, -1⟩ :: poBs', [.not (.eq (tlen (.cv 1)) (.il 16))]⟩
def seS4 (P : Program) (fn : Func) : Sy.St := ⟨(tplK (seS3 P fn) [0, 1, 2, 3, 9, 33, 37, 40] [] [] neCx 40).tm, neHp, neCx, 62⟩
def neA : Tm := .tb (.get .ptr 0) (.tb (.cons .ptr) (.iv 60) (.tb .row (.il 0) (.il 0) (.il 0)) (.il 0)) (.il 0) (.il 0)
def seS5 (P : Program) (fn : Func) : Sy.St := { seS4 P fn with tm := (seS4 P fn).tm.set 40 (.one (.c (.ptv (.iv 60)))), hp := ⟨50, 0, [.ptr 40 0], false, none, .al neA⟩ :: neHp }
def seS6 (P : Program) (fn : Func) : Sy.St := (opsSt P [] 10 400 60 (seO2 fn) (seS5 P fn)).getD default
def neT : Tm := .tb .app (.cv 1) (.tb (.cons .ptr) (.iv 60) (.tb .row (.il 0) (.il 0) (.il 0)) (.il 0)) (.il 0)
def neC' : List C := [.int .i64 (.iv 20), .int .i64 (.bop .or .i64 (.bop .and .i64 (.iv 21) (.il 7)) (.il 4)), .int .i64 (.il 0), .bool (.bv 20), .bool (.bl true)]
def neHp' : List Bk := [⟨64, 135, [], true, none, .tab [.ptr] neT⟩, ⟨50, 0, [.ptr 40 0], false, none, .al neA⟩, ⟨40, 137, neC', true, none, .no⟩, ⟨0, 134, [.slt 64 1 (.il 0) (.add (tlen (.cv 1)) (.il 1)) (.il 0)], true, none, .no⟩]
set_option maxRecDepth 100000 in
theorem se_run1 : shR 4 none (seR1 Try.prog Try.f36) = some [.out 0 .normal []] := by kernel_rfl
set_option maxRecDepth 100000 in
theorem se_cond : ∃ x a b, Sy.sub [0, 1] (seRe Try.f36) = .cond x a b ∧ a = seBA Try.f36 ∧ opd (lfAt (seR1 Try.prog Try.f36) 0).tm x = some (.one (.c (.bool (.bl true)))) := ⟨codC (Sy.sub [0, 1] (seRe Try.f36)), seBA Try.f36, .skip, by kernel_rfl, rfl, by kernel_rfl⟩
set_option maxRecDepth 100000 in
theorem se_run2 : shR 4 none (seR2 Try.prog Try.f36) = some [.out 0 .ret [.eq (tlen (.cv 1)) (.il 16)], .out 1 .normal [.not (.eq (tlen (.cv 1)) (.il 16))]] := by kernel_rfl
set_option maxRecDepth 100000 in
theorem se_ret2 : retsB Try.prog Try.f36 (seR2 Try.prog Try.f36) (.one (.c (.int .i64 (.il 9)))) [0] = true := by kernel_rfl
set_option maxRecDepth 100000 in
theorem se_hp2 : (lfAt (seR2 Try.prog Try.f36) 0).hp = [ptB true, arB true (.cv 1)] := by kernel_rfl
set_option maxRecDepth 100000 in
theorem se_ops3 : opsSt Try.prog [] 10 400 4 (seO1 Try.f36) (lfAt (seR2 Try.prog Try.f36) 1) = some (seS3 Try.prog Try.f36) := by kernel_rfl
set_option maxRecDepth 100000 in
theorem se_rg : ∃ id, Sy.sub [1, 1] (seBA Try.f36) = .region id (seO1 Try.f36 ++ seO2 Try.f36).toArray false := ⟨8, by kernel_rfl⟩
set_option maxRecDepth 100000 in
theorem se_m4 : (matchS 4 (seS4 Try.prog Try.f36) (seS3 Try.prog Try.f36)).map noU = some [] := by kernel_rfl
set_option maxRecDepth 100000 in
theorem se_low4 : lowSt 60 (seS4 Try.prog Try.f36) = true := by kernel_rfl
set_option maxRecDepth 100000 in
theorem se_fr4 : ((seS4 Try.prog Try.f36).free 50, (seS4 Try.prog Try.f36).free 51, (seS4 Try.prog Try.f36).tm.getD 40 undS) = (true, true, .one (.c (.ptr 40 0))) := by kernel_rfl
set_option maxRecDepth 100000 in
theorem se_ops6 : opsSt Try.prog [] 10 400 60 (seO2 Try.f36) (seS5 Try.prog Try.f36) = some (seS6 Try.prog Try.f36) := by kernel_rfl
set_option maxRecDepth 100000 in
theorem se_run7 : smR Try.prog Try.f36 60 (run Try.prog [] 10 400 60 (.code (Sy.sub [1] (seRe Try.f36))) (seS6 Try.prog Try.f36)) = some [.ret (.one (.c (.int .i64 (.il 0)))) neHp' [.not (.eq (tlen (.cv 1)) (.il 16))]] := by kernel_rfl
set_option maxRecDepth 100000 in
theorem se_own1 : find 0 (lfAt (seR0 Try.prog Try.f36) 1).hp = some ownB := by kernel_rfl
theorem getD_app {α : Type} (l : List α) (x d : α) (i : Nat) : (l ++ [x]).getD i d = if i < l.length then l.getD i d else if i = l.length then x else d := by
  rw [List.getD_eq_getElem?_getD, List.getD_eq_getElem?_getD, List.getElem?_append]
  split
  · rfl
  · split
    · rename_i h; rw [h, Nat.sub_self]; rfl
    · rename_i h1 h2
      rw [List.getElem?_eq_none (by simp; omega)]
      rfl
section
variable {arr cap : Nat} {bs : List Nat} {rows : List (List Value)} {x y : Int} {e : Bool} {w w1 : World} {g : Nat}
def poS (g arr cap : Nat) (i : Nat) : Prop := i = g ∨ (cap ≠ 0 ∧ i = arr)
theorem poS_sub {i : Nat} (h : poS g arr cap i) : i ∈ polF g arr cap bs := polF_mem.2 (h.imp id .inl)
/-- The watches are none of the poller's own blocks. -/
theorem Pol.fam2 (h : Pol w1 g arr cap bs rows) {w2 : World} (ho : Only (poS g arr cap) w1 w2) : Fam w2 bs rows := h.fam.keep fun b hb => ho.block b (h.fam.lt hb) fun q => by
  rcases q with rfl | ⟨hc, rfl⟩
  · exact h.g0 hb
  · exact (h.a0 hc).1 hb
theorem Pol.re (h : Pol w1 g arr cap bs rows) {w2 : World} (ho : Only (poS g arr cap) w1 w2) {ρ : Env} {β : Bn} {b1 b2 : Bool} (hc1 : ρ.c 1 = bs.map pr) (e0 : β 0 = g) (e2 : β 2 = arr) (e3 : β 3 = cap) (h1 : BkOk ρ β w2 (ptB b1)) (h2 : BkOk ρ β w2 (arB b2 (.cv 1))) : Pol w2 g arr cap bs rows := by
  have h1 : Blk w2 (β 0) 134 [sltZ (β 2) (β 3) 1 0 ((ρ.c 1).length : Int).toNat 0] := h1
  have h2 : RowT w2 (β 2) (β 3) 135 [.ptr] (ρ.c 1) := h2
  rw [sltZ_zero, e0, e2, e3, hc1, List.length_map, Int.toNat_natCast] at h1
  rw [e2, e3, hc1] at h2
  exact ⟨h.fam2 ho, h.l16, h1, h2, h.g0, h.a0⟩
/-- The poller's own blocks, to be written. -/
theorem po_open {ρ : Env} {β : Bn} {a : Act} {S : Nat → Prop} {w0 : World} {β0 : Bn} {s : Sy.St} {cx : Cx} (h : Pol w1 g arr cap bs rows) (hc1 : ρ.c 1 = bs.map pr) (e0 : β 0 = g) (e2 : β 2 = arr) (e3 : β 3 = cap) (hcx : cx.ok ρ) (hM : Md ρ S w0 β0 4 s β a w1) :
    Md ρ (poS g arr cap) w1 β 4 { s with hp := [ptB true, arB true (.cv 1)], cx := cx } β a w1 := by
  have hreal : (arB true (.cv 1)).real β → cap ≠ 0 := fun hr e => (hr.resolve_left (by simp [arB, Bk.nilable, Xt.isTab])) (e3.trans e)
  refine Sy.Md.anew hM.act ⟨?_, ?_, trivial⟩ ⟨⟨fun _ hr => ?_, trivial⟩, trivial, trivial⟩ ⟨fun _ _ i hi => ?_, fun _ hr i hi => ?_, trivial⟩ hcx
  · show Blk w1 (β 0) 134 [sltZ (β 2) (β 3) 1 0 ((ρ.c 1).length : Int).toNat 0]
    rw [sltZ_zero, e0, e2, e3, hc1, List.length_map, Int.toNat_natCast]
    exact h.obj
  · show RowT w1 (β 2) (β 3) 135 [.ptr] (ρ.c 1)
    rw [e2, e3, hc1]
    exact h.tab
  · refine apart.of rfl rfl ?_
    show β 0 ≠ β 2
    rw [e0, e2]
    exact (h.a0 (hreal hr)).2.symm
  · exact .inl ((fp_one rfl hi).trans e0)
  · exact .inr ⟨hreal hr, (fp_one rfl hi).trans e2⟩
theorem neCx_ok {ρ : Env} (I : PoI arr cap bs rows x y e ρ) (h22 : ρ.i 22 = -1) (hn : bs.length < 16) : neCx.ok ρ := by
  refine ⟨fun z hz => ?_, fun t ht => ?_⟩
  · rcases List.mem_cons.1 hz with rfl | hz
    · show (-1 : Int) ≤ ρ.i 22 ∧ ρ.i 22 ≤ -1
      omega
    · exact I.bds (by omega) z hz
  · rw [List.mem_singleton.1 ht, t_not, t_eq]
    show ¬ ((ρ.c 1).length : Int) = 16
    rw [I.c1, List.length_map]
    omega
/-- A poller with one watch more. -/
theorem Pol.more (h : Pol w1 g arr cap bs rows) (l16 : rows.length < 16) {w2 : World} (ho : Only (poS g arr cap) w1 w2) {b arr' cap' : Nat} (hb : w1.heap.size ≤ b) (ha : cap' ≠ 0 → arr' ≠ b ∧ arr' ≠ g ∧ ((cap ≠ 0 ∧ arr' = arr) ∨ w1.heap.size ≤ arr')) {r : List Value} (hr : WRow r)
    (hT : RowT w2 arr' cap' 135 [.ptr] ((bs ++ [b]).map pr)) (hW : Blk w2 b 137 (wC r)) (hO : Blk w2 g 134 [sltV arr' cap' (bs ++ [b]).length]) : Pol w2 g arr' cap' (bs ++ [b]) (rows ++ [r]) ∧ ∀ i ∈ polF g arr' cap' (bs ++ [b]), i ∈ polF g arr cap bs ∨ w1.heap.size ≤ i := by
  have hl := h.fam.len
  have hF := h.fam2 ho
  have hlt : ∀ z ∈ bs, z < w1.heap.size := fun z hz => h.fam.lt hz
  refine ⟨⟨⟨by simp [hl], ?_, fun i hi => ?_, fun z hz => ?_⟩, by simp; omega, hO, hT, fun q => ?_, fun q => ⟨fun hm => ?_, (ha q).2.1⟩⟩, fun i hi => ?_⟩
  · rw [List.nodup_append]
    refine ⟨h.fam.nd, by simp, fun z hz z' hz' => ?_⟩
    rw [List.mem_singleton.1 hz']
    have := hlt z hz
    omega
  · rw [getD_app, getD_app, hl]
    rw [List.length_append] at hi
    change i < rows.length + 1 at hi
    by_cases hi' : i < rows.length
    · rw [if_pos hi', if_pos hi']
      exact hF.blk i hi'
    · have : i = rows.length := by omega
      rw [if_neg hi', if_neg hi', if_pos this, if_pos this]
      exact hW
  · rcases List.mem_append.1 hz with hz | hz
    · exact h.fam.good z hz
    · rw [List.mem_singleton.1 hz]; exact hr
  · rcases List.mem_append.1 q with q | q
    · exact h.g0 q
    · have := h.obj.lt
      rw [List.mem_singleton.1 q] at this
      omega
  · rcases List.mem_append.1 hm with hm | hm
    · rcases (ha q).2.2 with ⟨hc, e⟩ | e
      · exact (h.a0 hc).1 (e ▸ hm)
      · have := hlt _ hm
        omega
    · exact (ha q).1 (List.mem_singleton.1 hm)
  · rcases polF_mem.1 hi with rfl | ⟨q, rfl⟩ | hm
    · exact .inl (polF_mem.2 (.inl rfl))
    · rcases (ha q).2.2 with q | q
      · exact .inl (polF_mem.2 (.inr (.inl q)))
      · exact .inr q
    · rcases List.mem_append.1 hm with hm | hm
      · exact .inl (polF_mem.2 (.inr (.inr hm)))
      · rw [List.mem_singleton.1 hm]; exact .inr hb
set_option maxRecDepth 100000 in
set_option maxHeartbeats 1000000 in
theorem se_B {ρ : Env} (I : PoI arr cap bs rows x y e ρ) (h : Pol w1 g arr cap bs rows) (hfd : 0 ≤ x ∧ x < 16) (hix : ixOf (isFd x) rows < 0) (h22 : ρ.i 22 = -1) {β : Bn} {a : Act} (hM : Md ρ (fun i => i ∈ polF g arr cap bs) w (poN g arr cap bs) 4 (seT Try.prog Try.f36) β a w1) :
    (seRe Try.f36).wp Try.prog (bodyPost Try.prog Try.f36 (RetP (SePost w g arr cap bs rows x y e))) a w1 := by
  have hnx : ¬ (x < 0 ∨ 16 ≤ x) := by omega
  have hl := h.fam.len
  have l16 := h.l16
  have e0 : β 0 = g := hM.old 0 (by decide)
  have e2 : β 2 = arr := hM.old 2 (by decide)
  have e3 : β 3 = cap := hM.old 3 (by decide)
  have hcx : Cx.ok ρ ⟨⟨.iv 22, -1, -1⟩ :: poBs', []⟩ := ⟨fun z hz => by
    rcases List.mem_cons.1 hz with rfl | hz
    · show (-1 : Int) ≤ ρ.i 22 ∧ ρ.i 22 ≤ -1
      omega
    · exact I.bds (by omega) z hz, fun t ht => by cases ht⟩
  have M2 : Md ρ (poS g arr cap) w1 β 4 (seSB Try.prog Try.f36) β a w1 := po_open h I.c1 e0 e2 e3 hcx hM
  refine part_pre (B := ⟨ρ, poS g arr cap, w1, β, 4⟩) (sp := []) (p := [0, 1]) I.good (fun q hq => by cases hq) rfl (r := seR1 Try.prog Try.f36) rfl se_run1 ⟨?_, trivial⟩ M2
  intro _ β3 a3 w3 M3
  show (Sy.sub [0, 1] (seRe Try.f36)).wp Try.prog (ctx Try.prog [0, 1] (seRe Try.f36) _) a3 w3
  obtain ⟨cx, ca, cb, hc, rfl, hop⟩ := se_cond
  rw [hc]
  refine cond_wp M3 hop (fun _ => ?_) (fun q => by cases q)
  refine part_pre (B := ⟨ρ, poS g arr cap, w1, β, 4⟩) (sp := []) (p := [1, 1]) I.good (fun q hq => by cases hq) rfl (r := seR2 Try.prog Try.f36) rfl se_run2 ⟨?_, ?_, trivial⟩ M3
  · intro hpc β4 a4 w4 M4
    have h16 : rows.length = 16 := by
      have := hpc.1
      rw [t_eq] at this
      change ((ρ.c 1).length : Int) = 16 at this
      rw [I.c1, List.length_map] at this
      omega
    show ctx Try.prog [0, 1] (seRe Try.f36) _ .ret a4 w4
    refine ctx_ret _ _ _ (ret_post (B := ⟨ρ, poS g arr cap, w1, β, 4⟩) M4 (retsB_ok se_ret2 rfl) ⟨?_, ?_⟩)
    · show Value.int .i64 9 = _
      unfold setC
      rw [if_neg hnx, if_pos ⟨hix, by omega⟩]
    · have hp := M4.hp
      rw [se_hp2] at hp
      have f0 : β4 0 = g := (M4.old 0 (show 0 < 4 by decide)).trans e0
      have f2 : β4 2 = arr := (M4.old 2 (show 2 < 4 by decide)).trans e2
      have f3 : β4 3 = cap := (M4.old 3 (show 3 < 4 by decide)).trans e3
      have h4 := h.re M4.only I.c1 f0 f2 f3 (hp _ (List.mem_cons_self ..)) (hp _ (List.mem_cons_of_mem _ (List.mem_cons_self ..)))
      unfold setR
      rw [if_neg hnx, if_pos hix, if_pos (by omega)]
      exact po_same h4 (hM.only.trans (M4.only.mono fun i _ hi => poS_sub hi))
  · intro hpc β4 a4 w4 M4
    have h15 : rows.length < 16 := by
      have := hpc.1
      rw [t_not, t_eq] at this
      change ¬ ((ρ.c 1).length : Int) = 16 at this
      rw [I.c1, List.length_map] at this
      omega
    show (Sy.sub [1, 1] (seBA Try.f36)).wp Try.prog (ctx Try.prog [1, 1] (seBA Try.f36) (ctx Try.prog [0, 1] (seRe Try.f36) _)) a4 w4
    obtain ⟨id, hrg⟩ := se_rg
    rw [hrg]
    refine wp_region_list ?_
    show wpList _ _ _ (seO1 Try.f36 ++ seO2 Try.f36) a4 w4
    refine opsSt_ok (B := ⟨ρ, poS g arr cap, w1, β, 4⟩) (sp := []) I.good (fun q hq => by cases hq) se_ops3 (fun β5 a5 w5 M5 => ?_) M4
    obtain ⟨u, β6, M6⟩ := Sy.Md.enter M5 se_m4 (fun u => neCx_ok (arr := arr) (cap := cap) (rows := rows) (x := x) (y := y) (e := e) (bs := bs) ⟨I.good, I.i20, I.i21, I.b20, I.c0, I.c1, I.f, I.o, I.x0, I.x1, I.y0, I.y1⟩ h22 (by omega))
    have I6 : PoI arr cap bs rows x y e { ρ.sub β5 [] with u := u } := ⟨I.good, I.i20, I.i21, I.b20, I.c0, I.c1, I.f, I.o, I.x0, I.x1, I.y0, I.y1⟩
    generalize ({ ρ.sub β5 [] with u := u } : Env) = ρ6 at M6 I6
    have f0 : β6 0 = g := (M6.old 0 (show 0 < 4 by decide)).trans e0
    have f2 : β6 2 = arr := (M6.old 2 (show 2 < 4 by decide)).trans e2
    have f3 : β6 3 = cap := (M6.old 3 (show 3 < 4 by decide)).trans e3
    have hfresh : w1.heap.size ≤ β6 40 := by
      have hb40 : (⟨40, 137, neC, true, none, .no⟩ : Bk) ∈ (seS4 Try.prog Try.f36).hp := List.mem_cons_self ..
      have n1 : β6 40 ≠ β6 0 := M6.neq _ hb40 (ptB true) (List.mem_cons_of_mem _ (List.mem_cons_self ..)) (by decide) (.inl rfl) (.inl rfl)
      rcases M6.may0 _ hb40 rfl (.inl rfl) with q | q
      · rcases q with q | ⟨qc, q⟩
        · exact absurd (q.trans f0.symm) n1
        · have n2 : β6 40 ≠ β6 2 := M6.neq _ hb40 (arB true (.cv 1)) (List.mem_cons_of_mem _ (List.mem_cons_of_mem _ (List.mem_cons_self ..))) (by decide) (.inl rfl) (.inr fun q => qc (f3.symm.trans q))
          exact absurd (q.trans f2.symm) n2
      · exact q
    obtain ⟨b, hb⟩ : ∃ b, β6 40 = b := ⟨_, rfl⟩
    have M7 := Sy.Md.hi M6 60 [.int .i64 (b : Int)] se_low4
    have i60 : (ρ6.hi 60 [.int .i64 (b : Int)]).i 60 = (b : Int) := rfl
    have I7 : PoI arr cap bs rows x y e (ρ6.hi 60 [.int .i64 (b : Int)]) := ⟨I6.good, I6.i20, I6.i21, I6.b20, I6.c0, I6.c1, I6.f, I6.o, I6.x0, I6.x1, I6.y0, I6.y1⟩
    generalize ρ6.hi 60 [.int .i64 (b : Int)] = ρ7 at M7 I7 i60
    obtain ⟨fr1, fr2⟩ := Prod.mk.inj se_fr4
    obtain ⟨fr2, fr3⟩ := Prod.mk.inj fr2
    have M8 := Sy.Md.letter M7 50 0 0 (show 4 ≤ 50 by decide) fr1 fr2
    have g40 : upd (upd β6 50 0) 51 0 40 = b := by rw [upd_old (by decide), upd_old (by decide)]; exact hb
    have g51 : upd (upd β6 50 0) 51 0 51 = 0 := upd_new ..
    have glt : ∀ l, l < 4 → upd (upd β6 50 0) 51 0 l = β6 l := fun l hl => by rw [upd_old (by omega), upd_old (by omega)]
    change Md ρ7 (poS g arr cap) w1 β 4 (seS4 Try.prog Try.f36) (upd (upd β6 50 0) 51 0) a5 w5 at M8
    generalize upd (upd β6 50 0) 51 0 = β8 at M8 g40 g51 glt
    have M9 := Md.retell M8 40 (.one (.c (.ptv (.iv 60)))) (by
      rw [fr3]
      show Value.pointer (some ⟨(ρ7.i 60).toNat, 0, none⟩) = .pointer (some ⟨β8 40, 0, none⟩)
      rw [i60, g40, Int.toNat_natCast])
    have M10 := Sy.Md.addBk M9 ⟨50, 0, [.ptr 40 0], false, none, .al neA⟩ (by
      refine ⟨g51, ?_⟩
      show [Value.pointer (some ⟨β8 40, 0, none⟩)] = [.pointer (some ⟨(ρ7.i 60).toNat, 0, none⟩)]
      rw [i60, g40, Int.toNat_natCast]) (fun z _ _ hr => absurd g51 (hr.resolve_left (by simp [Bk.nilable, Xt.isAl]))) (fun q => by cases q)
    have M11 : Md ρ7 (poS g arr cap) w1 β8 60 (seS5 Try.prog Try.f36) β8 a5 w5 := Sy.Md.at_ M10 60
    rw [← List.append_nil (seO2 Try.f36)]
    refine opsSt_ok (B := ⟨ρ7, poS g arr cap, w1, β8, 60⟩) (sp := []) I7.good (fun q hq => by cases hq) se_ops6 (fun β9 a9 w9 M12 => ?_) M11
    refine wpList_nil ?_
    show (Sy.sub [1] (seRe Try.f36)).wp Try.prog _ a9 w9
    refine tail_fin (B := ⟨ρ7, poS g arr cap, w1, β8, 60⟩) (sp := []) (lim := 10) (fuel := 400) I7.good (fun q hq => by cases hq) se_run7 ⟨?_, trivial⟩ M12
    intro _ βf w2 hH
    have b64 : (⟨64, 135, [], true, none, .tab [.ptr] neT⟩ : Bk) ∈ neHp' := List.mem_cons_self ..
    have b40 : (⟨40, 137, neC', true, none, .no⟩ : Bk) ∈ neHp' := List.mem_cons_of_mem _ (List.mem_cons_of_mem _ (List.mem_cons_self ..))
    have b0 : (⟨0, 134, [.slt 64 1 (.il 0) (.add (tlen (.cv 1)) (.il 1)) (.il 0)], true, none, .no⟩ : Bk) ∈ neHp' := List.mem_cons_of_mem _ (List.mem_cons_of_mem _ (List.mem_cons_of_mem _ (List.mem_cons_self ..)))
    have k0 : βf 0 = g := (hH.old 0 (show 0 < 60 by decide)).trans ((glt 0 (by decide)).trans f0)
    have k40 : βf 40 = b := (hH.old 40 (show 40 < 60 by decide)).trans g40
    have hT : RowT w2 (βf 64) (βf 65) 135 [.ptr] (den ρ7 neT).c := hH.hp _ b64
    have hW : Blk w2 (βf 40) 137 (denL ρ7 βf neC') := hH.hp _ b40
    have hO : Blk w2 (βf 0) 134 [sltZ (βf 64) (βf 65) 1 0 (((ρ7.c 1).length : Int) + 1).toNat 0] := hH.hp _ b0
    have hneT : (den ρ7 neT).c = (bs ++ [b]).map pr := by
      show ρ7.c 1 ++ [[Value.pointer (some ⟨(ρ7.i 60).toNat, 0, none⟩)]] = _
      rw [I7.c1, i60, Int.toNat_natCast, List.map_append]
      rfl
    rw [hneT] at hT
    have hlb : (((ρ7.c 1).length : Int) + 1).toNat = (bs ++ [b]).length := by rw [I7.c1, List.length_map, List.length_append]; show _ = bs.length + 1; omega
    rw [sltZ_zero, hlb, k0] at hO
    have hmk := wC_mk (a := x) (m := y % 8) (r := 0) e true ⟨I.x0, I.x1⟩ (m8 y) (by omega)
    have hden : denL ρ7 βf neC' = wC (neR x y e) := by
      refine Eq.trans ?_ hmk.1.symm
      show [Value.int .i64 (ρ7.i 20), .int .i64 (bits .or .i64 (bits .and .i64 (ρ7.i 21) 7) 4), .int .i64 0, .bool (ρ7.b 20), .bool true] = _
      rw [I7.i20, I7.i21, I7.b20, band7, bor4 (m8 y).1 (m8 y).2]
    rw [hden, k40] at hW
    rw [hb] at hfresh
    have hP := h.more (arr' := βf 64) (cap' := βf 65) h15 hH.only hfresh (fun hc => by
      have n1 : βf 64 ≠ βf 40 := hH.neq _ b64 _ b40 (by decide) (.inr hc) (.inl rfl)
      have n2 : βf 64 ≠ βf 0 := hH.neq _ b64 _ b0 (by decide) (.inr hc) (.inl rfl)
      refine ⟨fun q => n1 (q.trans k40.symm), fun q => n2 (q.trans k0.symm), ?_⟩
      rcases hH.may0 _ b64 rfl (.inr hc) with q | q
      · rcases q with q | q
        · exact absurd (q.trans k0.symm) n2
        · exact .inl q
      · exact .inr q) hmk.2 hT hW hO
    refine ⟨?_, ?_⟩
    · show Value.int .i64 0 = _
      unfold setC
      rw [if_neg hnx, if_neg fun q => by omega]
    · unfold setR
      rw [if_neg hnx, if_pos hix, if_neg (by omega)]
      exact ⟨_, _, _, hP.1, hM.only.trans (hH.only.mono fun i _ hi => poS_sub hi), fun i hi => (hP.2 i hi).imp (fun q => q) fun q => Nat.le_trans hM.only.size q⟩
set_option maxRecDepth 100000 in
/-- Set. -/
theorem set_calls (h : Pol w g arr cap bs rows) (hx0 : -9223372036854775808 ≤ x) (hx1 : x ≤ 9223372036854775807) (hy0 : -9223372036854775808 ≤ y) (hy1 : y ≤ 9223372036854775807) :
    Calls Try.prog 36 #[.pointer (some ⟨g, 0, none⟩), .int .i64 x, .int .i64 y, .bool e] w (RetP (SePost w g arr cap bs rows x y e)) := by
  have I := poE_I (arr := arr) (cap := cap) (bs := bs) (rows := rows) (e := e) hx0 hx1 hy0 hy1
  refine calls_pre (B := ⟨poE arr cap bs rows x y e, fun i => i ∈ polF g arr cap bs, w, poN g arr cap bs, 4⟩) (sp := [patSp]) (p := seP) (xs := seA) (s := po0) (r := seR0 Try.prog Try.f36) I.good (fun q hq => by rw [List.mem_singleton.1 hq]; exact patSp_ok I.f I.o) rfl Try.func36 rfl rfl se_run0 (po_init h I) ?_ rfl
  obtain ⟨o1, o2⟩ := Prod.mk.inj se_own0
  have ret : ∀ k, [0, 2].contains k = true → find 0 (lfAt (seR0 Try.prog Try.f36) k).hp = some ownB → (x < 0 ∨ 16 ≤ x) → ∀ β a w', Md (poE arr cap bs rows x y e) (fun i => i ∈ polF g arr cap bs) w (poN g arr cap bs) 4 (lfAt (seR0 Try.prog Try.f36) k) β a w' → bodyPost Try.prog Try.f36 (RetP (SePost w g arr cap bs rows x y e)) .ret a w' := fun k hk ho hb β a w' M => by
    refine ret_post (B := ⟨poE arr cap bs rows x y e, fun i => i ∈ polF g arr cap bs, w, poN g arr cap bs, 4⟩) M (retsB_ok se_ret0 hk) ⟨?_, ?_⟩
    · show Value.int .i64 1 = _
      unfold setC
      rw [if_pos hb]
    · unfold setR
      rw [if_pos hb]
      exact po_same (own_back I M.old (M.hp _ (find_mem ho).1)) M.only
  refine ⟨?_, ?_, ?_, trivial⟩
  · intro hpc β a w' M
    refine ret 0 rfl o1 (.inr ?_) β a w' M
    have := hpc.1
    rw [t_le] at this
    exact this
  · intro hpc β a w1 M
    have hfd : 0 ≤ x ∧ x < 16 := by
      have h1 := hpc.1
      have h2 := hpc.2.1
      rw [t_not, t_le] at h1
      rw [t_not, t_lt] at h2
      change ¬ (16 : Int) ≤ x at h1
      change ¬ x < 0 at h2
      omega
    have hP := own_back I M.old (M.hp ownB (find_mem se_own1).1)
    have I1 : ∀ u, PoI arr cap bs rows x y e { (poE arr cap bs rows x y e).sub β [.i 22 (.ap 7 (.cv 0) (.iv 20) (.il 0))] with u := u } := fun u => ⟨I.good, I.i20, I.i21, I.b20, I.c0, I.c1, I.f, I.o, I.x0, I.x1, I.y0, I.y1⟩
    obtain ⟨u, β1, M1⟩ := Sy.Md.enter M se_match (fun u => ⟨(I1 u).bds (by rw [h.fam.len]; exact h.l16), fun t ht => by cases ht⟩)
    have I1 := I1 u
    have h22 : ({ (poE arr cap bs rows x y e).sub β [.i 22 (.ap 7 (.cv 0) (.iv 20) (.il 0))] with u := u } : Env).i 22 = ixOf (isFd x) rows := rfl
    generalize ({ (poE arr cap bs rows x y e).sub β [.i 22 (.ap 7 (.cv 0) (.iv 20) (.il 0))] with u := u } : Env) = ρ1 at M1 I1 h22
    show (seRe Try.f36).wp Try.prog (bodyPost Try.prog Try.f36 (RetP (SePost w g arr cap bs rows x y e))) a w1
    have hbd := ixOf_bd (isFd x) rows
    by_cases hix : ixOf (isFd x) rows < 0
    · exact se_B I1 hP hfd hix (by omega) M1
    · exact se_A I1 hP hfd (k := (ixOf (isFd x) rows).toNat) (by omega) (by omega) (by omega) M1
  · intro hpc β a w' M
    refine ret 2 rfl o2 (.inl ?_) β a w' M
    have := hpc.1
    rw [t_lt] at this
    exact this
end
end Go.Proofs.Ytnjpoidpfcfbeaa
/- The poller's Note. -/
namespace Go.Proofs.Ytnjpoidpfcfbeaa
open Go.RowKit Sy
set_option linter.unusedVariables false
set_option linter.unusedSimpArgs false

def noA : List SV := [.one (.c (.ptr 0 0)), .one (.c (.int .i64 (.iv 20))), .one (.c (.int .i64 (.iv 21)))]
def noP : List Nat := [1]
def noR0 (P : Program) (fn : Func) : Rs := run P [patSp] 10 400 4 (.code (pre noP (bodyOf fn))) (enterS fn noA po0)
def noT (P : Program) (fn : Func) : Sy.St := tplK (lfAt (noR0 P fn) 0) [0, 1, 2] [(6, .one (.c (.int .i64 (.iv 22))))] [] ⟨poBs', []⟩ 40
def noRA (P : Program) (fn : Func) : Rs := run P [] 10 400 8 (.code (Sy.sub noP (bodyOf fn))) (poFo (noT P fn))
def noTB (P : Program) (fn : Func) : Sy.St := { noT P fn with cx := ⟨⟨.iv 22, -1, -1⟩ :: poBs', []⟩ }
def noRB (P : Program) (fn : Func) : Rs := run P [] 10 400 4 (.code (Sy.sub noP (bodyOf fn))) (noTB P fn)
def noC1 : List C := [.int .i64 (.iv 30), .int .i64 (.iv 31), .int .i64 (.bop .and .i64 (.iv 21) (.il 7)), .bool (.bv 33), .bool (.not (.eq (.bop .andNot .i64 (.bop .and .i64 (.iv 21) (.il 7)) (.iv 32)) (.il 0)))]
def noC2 : List C := [.int .i64 (.iv 30), .int .i64 (.iv 31), .int .i64 (.bop .and .i64 (.iv 21) (.il 7)), .bool (.bv 33), .bool (.bl true)]
set_option maxRecDepth 100000 in
theorem no_run0 : shR 4 none (noR0 Try.prog Try.f40) = some [.out 0 .normal []] := by kernel_rfl
set_option maxRecDepth 100000 in
theorem no_own0 : find 0 (lfAt (noR0 Try.prog Try.f40) 0).hp = some ownB := by kernel_rfl
set_option maxRecDepth 100000 in
theorem no_match : (matchS 4 (noT Try.prog Try.f40) (lfAt (noR0 Try.prog Try.f40) 0)).map noU = some [.i 22 (.ap 7 (.cv 0) (.iv 20) (.il 0))] := by kernel_rfl
set_option maxRecDepth 100000 in
theorem no_low : lowSt 30 (noT Try.prog Try.f40) = true := by kernel_rfl
set_option maxRecDepth 100000 in
theorem no_free : ∀ n, 4 ≤ n → n < 8 → ({ noT Try.prog Try.f40 with hp := [ptB false, arB false (.cv 1)], cx := foCx } : Sy.St).free n = true := by
  intro n h1 h2
  obtain rfl | rfl | rfl | rfl : n = 4 ∨ n = 5 ∨ n = 6 ∨ n = 7 := by omega
  all_goals kernel_rfl
set_option maxRecDepth 100000 in
theorem no_runA : smR Try.prog Try.f40 8 (noRA Try.prog Try.f40) = some [.ret (.tup []) (foHp noC1) [.not (.bv 34), .le (.il 0) (.iv 22), .lt (.iv 22) (tlen (.cv 1))], .ret (.tup []) (foHp noC2) [.bv 34, .le (.il 0) (.iv 22), .lt (.iv 22) (tlen (.cv 1))]] := by kernel_rfl
set_option maxRecDepth 100000 in
theorem no_runB : smR Try.prog Try.f40 4 (noRB Try.prog Try.f40) = some [.ret (.tup []) [ownB] []] := by kernel_rfl
section
variable {arr cap : Nat} {bs : List Nat} {rows : List (List Value)} {x y : Int} {e : Bool} {w w1 : World} {g : Nat}
/-- What Note does. -/
def NoPost (w : World) (g arr cap : Nat) (bs : List Nat) (rows : List (List Value)) (x y : Int) (v : Value) (w' : World) : Prop := v = .tuple #[] ∧ PolGo w w' g arr cap bs (notR rows x y)
set_option maxRecDepth 100000 in
theorem no_A {ρ : Env} (I : PoI arr cap bs rows x y e ρ) (h : Pol w1 g arr cap bs rows) {k : Nat} (hk : k < rows.length) (hix : ixOf (isFd x) rows = (k : Int)) (h22 : ρ.i 22 = (k : Int)) {β : Bn} {a : Act} (hM : Md ρ (fun i => i ∈ polF g arr cap bs) w (poN g arr cap bs) 4 (noT Try.prog Try.f40) β a w1) :
    (Sy.sub noP (bodyOf Try.f40)).wp Try.prog (bodyPost Try.prog Try.f40 (RetP (NoPost w g arr cap bs rows x y))) a w1 := by
  obtain ⟨ρ', β', I', h22', hcs, hβ', h4, M⟩ := po_focus h I hk h22 hM.old no_low no_free hM
  obtain ⟨i30, i31, i32, b33, b34⟩ := foC_i hcs
  have hnk : ¬ ixOf (isFd x) rows < 0 := by omega
  have hmem : rows.getD k [] ∈ rows := by rw [List.getD_eq_getElem?_getD, List.getElem?_eq_getElem hk]; exact List.getElem_mem _
  have hgood := h.fam.good _ hmem
  have hmk := fun f : Bool => wC_mk (a := gI .i64 (rows.getD k []) 0) (m := gI .i64 (rows.getD k []) 1) (r := y % 8) (gB (rows.getD k []) 3) f (gI_bd (k := .i64) _ 0) ⟨hgood.m0, hgood.m1⟩ (m8 y)
  have fin : ∀ (cs : List C) (f : Bool), (∀ β, denL ρ' β cs = [.int .i64 (gI .i64 (rows.getD k []) 0), .int .i64 (mk4 (gI .i64 (rows.getD k []) 1)), .int .i64 (y % 8), .bool (gB (rows.getD k []) 3), .bool f]) → f = (gB (rows.getD k []) 4 || nwB (y % 8) (gI .i64 (rows.getD k []) 2)) →
      ∀ β2 w2, Hp ρ' (fun i => i = bs.getD k 0) w1 β' 8 (foHp cs) β2 w2 → NoPost w g arr cap bs rows x y ((SV.tup []).den ρ' β2) w2 := fun cs f hc hf β2 w2 hH => by
    refine ⟨rfl, ?_⟩
    have hB : Blk w2 (β2 4) 137 (denL ρ' β2 cs) := hH.hp _ (List.mem_cons_self ..)
    have e4 : β2 4 = bs.getD k 0 := (hH.old 4 (show 4 < 8 by decide)).trans h4
    rw [e4, hc β2, ← (hmk f).1] at hB
    have := po_turned hM.only.size h hM.only hk (hmk f).2 hH.only hB
    unfold notR
    rw [if_neg hnk, hix, Int.toNat_natCast]
    unfold noR
    rw [← hf]
    exact this
  refine tail_fin (B := ⟨ρ', fun i => i = bs.getD k 0, w1, β', 8⟩) (sp := []) (lim := 10) (fuel := 400) I'.good (fun q hq => by cases hq) no_runA ⟨?_, ?_, trivial⟩ M
  · intro hpc β2 w2 hH
    have h34 : gB (rows.getD k []) 4 = false := by
      have := hpc.1
      rw [t_not] at this
      rw [← b34]
      simpa [t_bv] using this
    refine fin noC1 (nwB (y % 8) (gI .i64 (rows.getD k []) 2)) (fun β => ?_) (by rw [h34, Bool.false_or]) β2 w2 hH
    show [Value.int .i64 (ρ'.i 30), .int .i64 (ρ'.i 31), .int .i64 (bits .and .i64 (ρ'.i 21) 7), .bool (ρ'.b 33), .bool (!(decide (bits .andNot .i64 (bits .and .i64 (ρ'.i 21) 7) (ρ'.i 32) = 0)))] = _
    rw [i30, i31, i32, b33, I'.i21, band7, bnew (m8 y).1 (m8 y).2 hgood.r0 hgood.r1, Bool.not_not]
  · intro hpc β2 w2 hH
    have h34 : gB (rows.getD k []) 4 = true := by
      have := hpc.1
      rw [← b34]
      simpa [t_bv] using this
    refine fin noC2 true (fun β => ?_) (by rw [h34, Bool.true_or]) β2 w2 hH
    show [Value.int .i64 (ρ'.i 30), .int .i64 (ρ'.i 31), .int .i64 (bits .and .i64 (ρ'.i 21) 7), .bool (ρ'.b 33), .bool true] = _
    rw [i30, i31, b33, I'.i21, band7]
set_option maxRecDepth 100000 in
/-- Note. -/
theorem not_calls (h : Pol w g arr cap bs rows) (hx0 : -9223372036854775808 ≤ x) (hx1 : x ≤ 9223372036854775807) (hy0 : -9223372036854775808 ≤ y) (hy1 : y ≤ 9223372036854775807) :
    Calls Try.prog 40 #[.pointer (some ⟨g, 0, none⟩), .int .i64 x, .int .i64 y] w (RetP (NoPost w g arr cap bs rows x y)) := by
  have I := poE_I (arr := arr) (cap := cap) (bs := bs) (rows := rows) (e := false) hx0 hx1 hy0 hy1
  refine calls_pre (B := ⟨poE arr cap bs rows x y false, fun i => i ∈ polF g arr cap bs, w, poN g arr cap bs, 4⟩) (sp := [patSp]) (p := noP) (xs := noA) (s := po0) (r := noR0 Try.prog Try.f40) I.good (fun q hq => by rw [List.mem_singleton.1 hq]; exact patSp_ok I.f I.o) rfl Try.func40 rfl rfl no_run0 (po_init h I) ⟨?_, trivial⟩ rfl
  intro hpc β a w1 M
  have hP := own_back I M.old (M.hp ownB (find_mem no_own0).1)
  have I1 : ∀ u, PoI arr cap bs rows x y false { (poE arr cap bs rows x y false).sub β [.i 22 (.ap 7 (.cv 0) (.iv 20) (.il 0))] with u := u } := fun u => ⟨I.good, I.i20, I.i21, I.b20, I.c0, I.c1, I.f, I.o, I.x0, I.x1, I.y0, I.y1⟩
  have hl16 : bs.length ≤ 16 := by rw [h.fam.len]; exact h.l16
  obtain ⟨u, β1, M1⟩ := Sy.Md.enter M no_match (fun u => ⟨(I1 u).bds hl16, fun t ht => by cases ht⟩)
  have I1 := I1 u
  have h22 : ({ (poE arr cap bs rows x y false).sub β [.i 22 (.ap 7 (.cv 0) (.iv 20) (.il 0))] with u := u } : Env).i 22 = ixOf (isFd x) rows := rfl
  generalize ({ (poE arr cap bs rows x y false).sub β [.i 22 (.ap 7 (.cv 0) (.iv 20) (.il 0))] with u := u } : Env) = ρ1 at M1 I1 h22
  show (Sy.sub noP (bodyOf Try.f40)).wp Try.prog (bodyPost Try.prog Try.f40 (RetP (NoPost w g arr cap bs rows x y))) a w1
  have hbd := ixOf_bd (isFd x) rows
  by_cases hix : ixOf (isFd x) rows < 0
  · have hcx : Cx.ok ρ1 ⟨⟨.iv 22, -1, -1⟩ :: poBs', []⟩ := ⟨fun z hz => by
      rcases List.mem_cons.1 hz with rfl | hz
      · show (-1 : Int) ≤ ρ1.i 22 ∧ ρ1.i 22 ≤ -1
        omega
      · exact I1.bds hl16 z hz, fun t ht => by cases ht⟩
    have M2 : Md ρ1 (fun i => i ∈ polF g arr cap bs) w (poN g arr cap bs) 4 (noTB Try.prog Try.f40) β1 a w1 := ⟨M1.act, M1.hp, M1.ne, M1.may, hcx, M1.only, M1.old⟩
    refine tail_fin (B := ⟨ρ1, fun i => i ∈ polF g arr cap bs, w, poN g arr cap bs, 4⟩) (sp := []) (lim := 10) (fuel := 400) I1.good (fun q hq => by cases hq) no_runB ⟨?_, trivial⟩ M2
    intro _ β2 w2 hH
    refine ⟨rfl, ?_⟩
    unfold notR
    rw [if_pos hix]
    exact po_same (own_back I1 hH.old (hH.hp _ (List.mem_cons_self ..))) hH.only
  · exact no_A I1 hP (k := (ixOf (isFd x) rows).toNat) (by omega) (by omega) (by omega) M1
end
end Go.Proofs.Ytnjpoidpfcfbeaa
