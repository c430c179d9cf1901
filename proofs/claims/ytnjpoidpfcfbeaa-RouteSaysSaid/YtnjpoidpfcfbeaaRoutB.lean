/- Routes: one node of the tree in a frame; Table.find. -/
import Derived.Test.YtnjpoidpfcfbeaaRoutA
namespace Go.Proofs.Ytnjpoidpfcfbeaa
open Go.RowKit Sy
set_option linter.unusedVariables false
set_option linter.unusedSimpArgs false

namespace Sy
theorem Md.enterL {ρ : Env} {S : Nat → Prop} {w0 : World} {β0 : Bn} {n0 : Nat} {s T : St} {β : Bn} {a : Act} {w : World} (hM : Md ρ S w0 β0 n0 s β a w) {n k : Nat} {l : List As} (h : (matchS n0 T s).map (fun l => (noU l, rnL l n)) = some (l, k)) (hc : ∀ u, T.cx.ok { ρ.sub β l with u := u }) : ∃ u β', Md { ρ.sub β l with u := u } S w0 β0 n0 T β' a w ∧ β' n = β k := by
  obtain ⟨m, hm, h⟩ := Option.map_eq_some_iff.1 h
  obtain ⟨rfl, rfl⟩ := Prod.mk.inj h
  refine ⟨(ρ.sub β m).u, bnL m β, ?_, rfl⟩
  have := Sy.Md.matched hM hm (by rw [sub_noU]; exact hc _)
  rwa [sub_noU] at this
/-- A frame built anew, from one that stands. -/
theorem Md.again {ρ : Env} {S S' : Nat → Prop} {w0 : World} {β0 : Bn} {n0 : Nat} {s : St} {β : Bn} {a : Act} {w : World} (hM : Md ρ S w0 β0 n0 s β a w) (n : Nat) (h : ∀ i, S i ∨ w0.heap.size ≤ i → S' i) : Md ρ S' w β n s β a w :=
  ⟨hM.act, hM.hp, hM.ne, fun b hb hw hr g hg => .inl (h g (hM.may b hb hw hr g hg)), hM.cx, Only.refl _ _, fun _ _ => rfl⟩
end Sy
def kc (n : Nat) (z : Bool) : C := bif z then .nptr else .ptr n 0
def ndG (l f h : Nat) (rt z1 z2 rw : Bool) : Bk := ⟨l, bif rt then 165 else 163, [kc f z1, kc (f + 2) z2, .bool (.bv h), .int .i64 (.iv (h + 1))] ++ (bif rt then [.int .i64 (.iv (h + 2))] else []), rw, none, .no⟩
def ndB (rt z1 z2 rw : Bool) : Bk := ndG 4 6 32 rt z1 z2 rw
def kidZ : Value → Bool
  | .pointer none => true
  | _ => false
def kidA : Value → Nat
  | .pointer (some p) => p.block
  | _ => 0
def ndBs (h : Nat) : List Bd := [i64B (h + 1), ⟨.iv (h + 2), 0, 64⟩]
def ndL (s : Bool) (v : Int) (o : Option Int) : List Value := [.bool s, .int .i64 v, .int .i64 (o.getD 0)]
theorem kc_den {w : World} {k : Nat} {a : Int} {p : Value} {F : List Nat} {c : Rws} (h : Sub w none k a p F c) (ρ : Env) (β : Bn) (n : Nat) (hβ : β n = kidA p) : (kc n (kidZ p)).den ρ β = p := by
  rcases h.shape with ⟨e, _⟩ | ⟨g, e⟩ <;> subst e
  · rfl
  · show Value.pointer (some ⟨β n, 0, none⟩) = _
    rw [hβ]
    rfl
section
variable {ρ : Env} {S : Nat → Prop} {w0 w : World} {β0 β : Bn} {n0 : Nat} {s : Sy.St} {ac : Act} {o : Option Int} {k : Nat} {a : Int} {b : Nat} {F : List Nat} {c : Rws} {p1 p2 : Value} {F1 F2 : List Nat} {c1 c2 : Rws} {st : Bool} {v : Int}
def ndSG (s : Sy.St) (l f h : Nat) (rt z1 z2 rw : Bool) : Sy.St := { s with hp := ndG l f h rt z1 z2 rw :: s.hp, cx := ⟨ndBs h ++ s.cx.bs, s.cx.pc⟩ }
def ndS (s : Sy.St) (rt z1 z2 rw : Bool) : Sy.St := ndSG s 4 6 32 rt z1 z2 rw
theorem hi_i (ρ : Env) (h j : Nat) (cs : List Value) : (ρ.hi h cs).i (h + j) = intAt cs j := by
  show (if h + j < h then _ else intAt cs (h + j - h)) = _
  rw [if_neg (by omega), Nat.add_sub_cancel_left]
theorem hi_b (ρ : Env) (h j : Nat) (cs : List Value) : (ρ.hi h cs).b (h + j) = boolAt cs j := by
  show (if h + j < h then _ else boolAt cs (h + j - h)) = _
  rw [if_neg (by omega), Nat.add_sub_cancel_left]
/-- What the letters of a node stand for. -/
structure NdE (h : Nat) (st : Bool) (v : Int) (o : Option Int) (ρ : Env) : Prop where
  st : ρ.b h = st
  v : ρ.i (h + 1) = v
  m : ρ.i (h + 2) = o.getD 0
theorem NdE.hi (ρ : Env) (h : Nat) (st : Bool) (v : Int) (o : Option Int) : NdE h st v o (ρ.hi h (ndL st v o)) := ⟨hi_b ρ h 0 _, hi_i ρ h 1 _, hi_i ρ h 2 _⟩
/-- The cells of a node. -/
theorem nd_den {h : Nat} {ρ : Env} {st : Bool} {v : Int} {o : Option Int} (E : NdE h st v o ρ) (β : Bn) (x y : C) : denL ρ β (x :: y :: C.bool (.bv h) :: C.int .i64 (.iv (h + 1)) :: (bif o.isSome then [C.int .i64 (.iv (h + 2))] else [])) = ndC (x.den ρ β) (y.den ρ β) st v o := by
  show x.den ρ β :: y.den ρ β :: Value.bool (ρ.b h) :: Value.int .i64 (ρ.i (h + 1)) :: denL ρ β _ = _
  rw [E.st, E.v]
  cases o with
  | none => rfl
  | some m =>
    show _ :: _ :: _ :: _ :: [Value.int .i64 (ρ.i (h + 2))] = _
    rw [E.m]
    rfl
/-- The node at which letter l stands is brought into the frame. -/
theorem nd_inG (l f hh : Nat) (hM : Md ρ S w0 β0 n0 s β ac w) (h : Nd w o k a b F c p1 p2 F1 F2 c1 c2 st v) (hb : β l = b) (ho : ∀ m, o = some m → 0 ≤ m ∧ m ≤ 64) (hn : n0 ≤ f) (hlf : l < f ∨ f + 4 ≤ l) (hl : lowSt hh s = true) (hf : ((s.free f && s.free (f + 1)) && (s.free (f + 2) && s.free (f + 2 + 1))) = true) (rw : Bool) (hne : ∀ x ∈ s.hp, x.real β → ¬ fp β x b) (hmay : rw = true → S b ∨ w0.heap.size ≤ b) :
    ∃ β', Md (ρ.hi hh (ndL st v o)) S w0 β0 n0 (ndSG s l f hh o.isSome (kidZ p1) (kidZ p2) rw) β' ac w ∧ β' f = kidA p1 ∧ β' (f + 2) = kidA p2 ∧ ∀ l, l < f ∨ f + 4 ≤ l → β' l = β l := by
  simp only [Bool.and_eq_true] at hf
  obtain ⟨⟨f6, f7⟩, f8, f9⟩ := hf
  have M1 := Sy.Md.hi hM hh (ndL st v o) hl
  have M2 := Sy.Md.letter M1 f (kidA p1) 0 hn f6 f7
  have M3 := Sy.Md.letter M2 (f + 2) (kidA p2) 0 (by omega) f8 f9
  obtain ⟨β3, e3⟩ : ∃ β3, upd (upd (upd (upd β f (kidA p1)) (f + 1) 0) (f + 2) (kidA p2)) (f + 2 + 1) 0 = β3 := ⟨_, rfl⟩
  rw [e3] at M3
  have q6 : β3 f = kidA p1 := by rw [← e3, upd_old (by omega), upd_old (by omega), upd_old (by omega), upd_new]
  have q8 : β3 (f + 2) = kidA p2 := by rw [← e3, upd_old (by omega), upd_new]
  have ql : ∀ l, l < f ∨ f + 4 ≤ l → β3 l = β l := fun l hl => by rw [← e3, upd_old (by omega), upd_old (by omega), upd_old (by omega), upd_old (by omega)]
  have q4 : β3 l = b := (ql l hlf).trans hb
  have E := NdE.hi ρ hh st v o
  obtain ⟨ρ1, hρ1⟩ : ∃ ρ1, ρ.hi hh (ndL st v o) = ρ1 := ⟨_, rfl⟩
  rw [hρ1] at M1 M3 E ⊢
  have old : ∀ x ∈ s.hp, β3 x.l = β x.l ∧ β3 (x.l + 1) = β (x.l + 1) ∧ denL ρ1 β3 x.cs = denL ρ1 β x.cs := fun x hx => by
    unfold St.free at f6 f7 f8 f9
    simp only [Bool.and_eq_true, List.all_eq_true, Bool.not_eq_true'] at f6 f7 f8 f9
    have g6 := f6.2 x hx
    have g7 := f7.2 x hx
    have g8 := f8.2 x hx
    have g9 := f9.2 x hx
    rw [← e3]
    exact ⟨by rw [upd_old (beq_ne g9.1), upd_old (beq_ne g8.1), upd_old (beq_ne g7.1), upd_old (beq_ne g6.1)], by rw [upd_old (beq_ne g9.2.2), upd_old (beq_ne g8.2.2), upd_old (beq_ne g7.2.2), upd_old (beq_ne g6.2.2)], (denL_upd _ g9.2.1).trans ((denL_upd _ g8.2.1).trans ((denL_upd _ g7.2.1).trans (denL_upd _ g6.2.1)))⟩
  have hcx : (⟨ndBs hh ++ s.cx.bs, s.cx.pc⟩ : Cx).ok ρ1 := by
    refine ⟨fun z hz => ?_, M1.cx.pc⟩
    rcases List.mem_append.1 hz with hz | hz
    · refine bdsP_ok (l := ndBs hh) ⟨?_, ?_, trivial⟩ z hz
      · show _ ≤ ρ1.i (hh + 1) ∧ ρ1.i (hh + 1) ≤ _
        rw [E.v]
        exact ⟨h.v0, h.v1⟩
      · show _ ≤ ρ1.i (hh + 2) ∧ ρ1.i (hh + 2) ≤ _
        rw [E.m]
        cases o with
        | none => exact ⟨by show (0 : Int) ≤ 0; omega, by show (0 : Int) ≤ 64; omega⟩
        | some m => exact ho m rfl
    · exact M1.cx.bs z hz
  have M4 : Md ρ1 S w0 β0 n0 { s with cx := ⟨ndBs hh ++ s.cx.bs, s.cx.pc⟩ } β3 ac w := ⟨M3.act, M3.hp, M3.ne, M3.may, hcx, M3.only, M3.old⟩
  refine ⟨β3, Sy.Md.addBk M4 (ndG l f hh o.isSome (kidZ p1) (kidZ p2) rw) ?_ (fun x hx hrx _ i hi hix => ?_) (fun hw _ i hi => ?_), q6, q8, ql⟩
  · show Blk w (β3 l) (bif o.isSome then 165 else 163) (denL ρ1 β3 (kc f (kidZ p1) :: kc (f + 2) (kidZ p2) :: C.bool (.bv hh) :: C.int .i64 (.iv (hh + 1)) :: (bif o.isSome then [C.int .i64 (.iv (hh + 2))] else [])))
    rw [q4, nd_den E, kc_den h.k1 _ β3 f q6, kc_den h.k2 _ β3 (f + 2) q8]
    have hB := h.blk
    cases o <;> exact hB
  · have ei : i = b := (fp_one rfl hi).trans q4
    rw [ei] at hix
    exact hne x hx (hrx.imp id fun q => by rw [← (old x hx).2.1]; exact q) ((fp_agree (old x hx).1 (old x hx).2.2 b).1 hix)
  · rw [(fp_one rfl hi).trans q4]
    exact hmay hw
theorem nd_in (hM : Md ρ S w0 β0 n0 s β ac w) (h : Nd w o k a b F c p1 p2 F1 F2 c1 c2 st v) (hb : β 4 = b) (ho : ∀ m, o = some m → 0 ≤ m ∧ m ≤ 64) (hn : n0 ≤ 6) (hl : lowSt 32 s = true) (hf : ((s.free 6 && s.free 7) && (s.free 8 && s.free 9)) = true) (rw : Bool) (hne : ∀ x ∈ s.hp, x.real β → ¬ fp β x b) (hmay : rw = true → S b ∨ w0.heap.size ≤ b) :
    ∃ β', Md (ρ.hi 32 (ndL st v o)) S w0 β0 n0 (ndS s o.isSome (kidZ p1) (kidZ p2) rw) β' ac w ∧ β' 6 = kidA p1 ∧ β' 8 = kidA p2 ∧ ∀ l, l < 6 ∨ 10 ≤ l → β' l = β l :=
  nd_inG 4 6 32 hM h hb ho hn (.inl (by decide)) hl hf rw hne hmay
end
/-! find. -/
def pA : List SV := [.one (.c (.ptr 0 0)), .one (.agg [.int .u32 (.iv 20), .int .i64 (.iv 21)])]
def fnP : List Nat := [1, 1, 0, 1, 2]
def fnBs : List Bd := [u32B 20, ⟨.iv 21, 0, 32⟩]
def fnS : Sy.St := ⟨[], [], ⟨fnBs, []⟩, 40⟩
def fnR0 (P : Program) (fn : Func) : Rs := run P [] 10 400 4 (.code (pre fnP (bodyOf fn))) (enterS fn pA fnS)
def fnCx : Cx := ⟨⟨.iv 22, 0, 32⟩ :: fnBs, []⟩
def fnT (P : Program) (fn : Func) : Sy.St := tplK (lfAt (fnR0 P fn) 0) [0, 3, 4, 11] [(5, .one (.c (.ptr 4 0))), (12, .one (.c (.int .i64 (.iv 22))))] [] fnCx 50
def fnLo (fn : Func) : Code := lpBody (Sy.sub fnP (bodyOf fn))
def fnR1 (P : Program) (fn : Func) (rt d z1 z2 : Bool) : Rs := run P [btSp d 22] 10 400 10 (.code (fnLo fn)) (ndS (fnT P fn) rt z1 z2 false)
set_option maxRecDepth 100000 in
theorem fn_run0 : shR 4 none (fnR0 Try.prog Try.f87) = some [.out 0 .normal []] := by kernel_rfl
set_option maxRecDepth 100000 in
theorem fn_match : (matchS 4 (fnT Try.prog Try.f87) (lfAt (fnR0 Try.prog Try.f87) 0)).map (fun l => (noU l, rnL l 4)) = some ([.i 22 (.il 0)], 0) := by kernel_rfl
set_option maxRecDepth 100000 in
theorem fn_loop : Sy.sub fnP (bodyOf Try.f87) = .loop (fnLo Try.f87) := by kernel_rfl
set_option maxRecDepth 100000 in
theorem fn_low : (lowSt 32 (fnT Try.prog Try.f87) && (((fnT Try.prog Try.f87).free 6 && (fnT Try.prog Try.f87).free 7) && ((fnT Try.prog Try.f87).free 8 && (fnT Try.prog Try.f87).free 9))) = true := by kernel_rfl
set_option maxRecDepth 100000 in
theorem fn_hp : (fnT Try.prog Try.f87).hp = [⟨40, 29, [.int .u32 (.iv 20), .int .i64 (.iv 21)], true, none, .no⟩] := by kernel_rfl
set_option maxRecDepth 100000 in
theorem fn_cx : (fnT Try.prog Try.f87).cx = fnCx := by kernel_rfl
set_option maxRecDepth 100000 in
/-- A round: the kid is there. -/
theorem fn_on : ∀ rt d z1 z2 : Bool, (bif d then z2 else z1) = false → shR 10 none (fnR1 Try.prog Try.f87 rt d z1 z2) = some [.out 0 .normal [(.lt (.iv 22) (.iv 21))], .out 1 (.exit 0) [.not (.lt (.iv 22) (.iv 21))]] := by
  intro rt d z1 z2 h
  cases rt <;> cases d <;> cases z1 <;> cases z2 <;> first | (cases h; done) | kernel_rfl
set_option maxRecDepth 100000 in
theorem fn_on_m : ∀ rt d z1 z2 : Bool, (bif d then z2 else z1) = false → (matchS 4 (fnT Try.prog Try.f87) (lfAt (fnR1 Try.prog Try.f87 rt d z1 z2) 0)).map (fun l => (noU l, rnL l 4)) = some ([.i 22 (.add (.iv 22) (.il 1))], bif d then 8 else 6) := by
  intro rt d z1 z2 h
  cases rt <;> cases d <;> cases z1 <;> cases z2 <;> first | (cases h; done) | kernel_rfl
set_option maxRecDepth 100000 in
/-- It is not there. -/
theorem fn_off : ∀ rt d z1 z2 : Bool, (bif d then z2 else z1) = true → shR 10 none (fnR1 Try.prog Try.f87 rt d z1 z2) = some [.out 0 .ret [(.lt (.iv 22) (.iv 21))], .out 1 (.exit 0) [.not (.lt (.iv 22) (.iv 21))]] := by
  intro rt d z1 z2 h
  cases rt <;> cases d <;> cases z1 <;> cases z2 <;> first | (cases h; done) | kernel_rfl
set_option maxRecDepth 100000 in
theorem fn_off_r : ∀ rt d z1 z2 : Bool, (bif d then z2 else z1) = true → retsB Try.prog Try.f87 (fnR1 Try.prog Try.f87 rt d z1 z2) (.one (.c .nptr)) [0] = true := by
  intro rt d z1 z2 h
  cases rt <;> cases d <;> cases z1 <;> cases z2 <;> first | (cases h; done) | kernel_rfl
set_option maxRecDepth 100000 in
theorem fn_end : ∀ rt d z1 z2 : Bool, smR Try.prog Try.f87 10 (run Try.prog [] 10 400 10 (.code (aft (.exit 0) fnP (bodyOf Try.f87))) (lfAt (fnR1 Try.prog Try.f87 rt d z1 z2) 1)) = some [.ret (.one (.c (.ptr 4 0))) [ndB rt z1 z2 false] [.not (.lt (.iv 22) (.iv 21))]] := by
  intro rt d z1 z2
  cases rt <;> cases d <;> cases z1 <;> cases z2 <;> kernel_rfl
end Go.Proofs.Ytnjpoidpfcfbeaa
/- Routes: the contract of Table.find. -/
namespace Go.Proofs.Ytnjpoidpfcfbeaa
open Go.RowKit Sy
set_option linter.unusedVariables false
set_option linter.unusedSimpArgs false

section
variable {w w' : World} {o : Option Int} {k : Nat} {a : Int} {b : Nat} {F : List Nat} {c : Rws} {p1 p2 : Value} {F1 F2 : List Nat} {c1 c2 : Rws} {s : Bool} {v : Int}
theorem Nd.keep (h : Nd w o k a b F c p1 p2 F1 F2 c1 c2 s v) (hk : ∀ i ∈ F, w'.heap[i]? = w.heap[i]?) : Nd w' o k a b F c p1 p2 F1 F2 c1 c2 s v := by
  have hF := h.hF
  refine ⟨h.hk, (hk b (by rw [hF]; exact List.mem_cons_self ..)).trans h.blk, h.k1.keep fun i hi => hk i (by rw [hF]; exact List.mem_cons_of_mem _ (List.mem_append_left _ hi)), h.k2.keep fun i hi => hk i (by rw [hF]; exact List.mem_cons_of_mem _ (List.mem_append_right _ hi)), h.hd, h.v0, h.v1, hF, h.hc⟩
/-- No route of that prefix, where its way leaves the tree. -/
theorem Nd.none (h : Nd w o k a b F c p1 p2 F1 F2 c1 c2 s v) {pre post : Rws} {x n : Int} (lo : ∀ r ∈ pre, key r < a * 64 + k) (hi : ∀ r ∈ post, (a + wid k) * 64 ≤ key r) (a0 : 0 ≤ a) (al : wid k ∣ a) (a1 : a + wid k ≤ 4294967296) (x0 : a ≤ x) (x1 : x < a + wid k) (hn : (k : Int) < n) (hn2 : n ≤ 32)
    (hz : (bif decide (a + wid (k + 1) ≤ x) then p2 else p1) = nilp) : (pre ++ (c ++ post)).any (isP x n) = false := by
  have hk : k < 32 := by omega
  have hh := wid_half hk
  have hw := wid_pos (k + 1)
  obtain ⟨l1, l2⟩ := al_kid hk al
  have r1 := h.k1.rows a0 l1 (by omega)
  have r2 := h.k2.rows (by omega) l2 (by omega)
  have hown := own_key h a0 al a1
  rw [List.any_eq_false]
  intro r hr
  have key_ne : key r ≠ x * 64 + n := by
    rcases List.mem_append.1 hr with hr | hr
    · have := lo r hr; omega
    rcases List.mem_append.1 hr with hr | hr
    · rw [h.hc] at hr
      rcases List.mem_append.1 hr with hr | hr
      · have := hown r hr; omega
      · by_cases hd : a + wid (k + 1) ≤ x
        · rw [decide_eq_true hd] at hz
          have e2 : c2 = [] := by
            rcases h.k2.shape with ⟨_, _, e⟩ | ⟨g, e⟩
            · exact e
            · exact absurd (e.symm.trans hz) (by intro q; cases q)
          rw [e2, List.append_nil] at hr
          have := (r1 r hr).key_hi
          omega
        · rw [decide_eq_false hd] at hz
          have e1 : c1 = [] := by
            rcases h.k1.shape with ⟨_, _, e⟩ | ⟨g, e⟩
            · exact e
            · exact absurd (e.symm.trans hz) (by intro q; cases q)
          rw [e1, List.nil_append] at hr
          have := (r2 r hr).key_lo
          omega
    · have := hi r hr; omega
  rw [not_isP key_ne]
  decide
end
/-- What find answers. -/
def FnR (w : World) (g : Nat) (m : Int) (F : List Nat) (C : Rws) (a n : Int) (v : Value) : Prop :=
  (v = nilp ∧ C.any (isP a n) = false) ∨ ∃ pre post o b F' c', Place w F g m pre post w o n.toNat a b F' c' ∧ v = ptv b ∧ C = pre ++ (c' ++ post)
/-- Where so many bits lead from a pointer. -/
def dst (w : World) (a : Int) : Nat → Nat → Value → Value
  | 0, _, p => p
  | j + 1, k, p => match p with
    | .pointer (some q) => dst w a j (k + 1) ((w.cell? ⟨q.block, (a / 2 ^ (31 - (k : Int)).toNat % 2).toNat, none⟩).getD nilp)
    | _ => nilp
theorem dst_nil (w : World) (a : Int) : ∀ j k, dst w a j k nilp = nilp
  | 0, _ => rfl
  | _ + 1, _ => rfl
theorem dst_step {w : World} {o : Option Int} {k : Nat} {ak : Int} {b : Nat} {F : List Nat} {c : Rws} {p1 p2 : Value} {F1 F2 : List Nat} {c1 c2 : Rws} {s : Bool} {v : Int} (N : Nd w o k ak b F c p1 p2 F1 F2 c1 c2 s v) {a : Int} (hk : k < 32) (al : wid k ∣ ak) (x0 : ak ≤ a) (x1 : a < ak + wid k) (a0 : 0 ≤ ak) (j : Nat) :
    dst w a (j + 1) k (ptv b) = dst w a j (k + 1) (bif decide (ak + wid (k + 1) ≤ a) then p2 else p1) := by
  show dst w a j (k + 1) ((w.cell? ⟨b, (a / 2 ^ (31 - (k : Int)).toNat % 2).toNat, none⟩).getD nilp) = _
  rw [bit_of hk al x0 x1 a0]
  cases decide (ak + wid (k + 1) ≤ a) with
  | false =>
    rw [show w.cell? ⟨b, (bif false then (1 : Int) else 0).toNat, none⟩ = some p1 from N.blk.at_ (i := 0) (by cases o <;> rfl)]
    rfl
  | true =>
    rw [show w.cell? ⟨b, (bif true then (1 : Int) else 0).toNat, none⟩ = some p2 from N.blk.at_ (i := 1) (by cases o <;> rfl)]
    rfl
theorem fnR_dst {w : World} {g : Nat} {m : Int} {F : List Nat} {C : Rws} {a n : Int} (hc : chkN a n = 0) : ∀ (j k : Nat) {pre post : Rws} {o : Option Int} {ak : Int} {b : Nat} {F' : List Nat} {c' : Rws}, n = ((k + j : Nat) : Int) → Place w F g m pre post w o k ak b F' c' → C = pre ++ (c' ++ post) → ak ≤ a → a < ak + wid k → FnR w g m F C a n (dst w a j k (ptv b))
  | 0, k, pre, post, o, ak, b, F', c', hn, P, hC, x0, x1 => by
    obtain ⟨n0, n1, nal⟩ := chk_0 hc
    have ekn : n.toNat = k := by omega
    refine .inr ⟨pre, post, o, b, F', c', ?_, rfl, hC⟩
    have hal : wid k ∣ a := by rw [← ekn]; exact Int.dvd_of_emod_eq_zero nal
    have : ak = a := by
      obtain ⟨u, hu⟩ := P.al
      obtain ⟨t, ht⟩ := hal
      have hw := wid_pos k
      have h1 : wid k * u ≤ wid k * t := by omega
      have h2 : wid k * t < wid k * (u + 1) := by rw [Int.mul_add]; omega
      have h3 := Int.le_of_mul_le_mul_left h1 (by omega)
      have h4 := Int.lt_of_mul_lt_mul_left h2 (by omega)
      have : t = u := by omega
      rw [hu, ht, this]
    rw [ekn, ← this]
    exact P
  | j + 1, k, pre, post, o, ak, b, F', c', hn, P, hC, x0, x1 => by
    obtain ⟨n0, n1, nal⟩ := chk_0 hc
    obtain ⟨p1, p2, F1, F2, c1, c2, s, v, N⟩ := P.sub.opn rfl
    have hk : k < 32 := by omega
    have hh := wid_half hk
    rw [dst_step N hk P.al x0 x1 P.a0]
    by_cases hd : ak + wid (k + 1) ≤ a
    · rw [decide_eq_true hd]
      show FnR w g m F C a n (dst w a j (k + 1) p2)
      rcases N.k2.shape with ⟨e, _⟩ | ⟨g1, e⟩
      · rw [e, dst_nil]
        refine .inl ⟨rfl, ?_⟩
        rw [hC]
        exact N.none P.lo P.hi P.a0 P.al P.a1 x0 x1 (by omega) n1 (by rw [decide_eq_true hd]; exact e)
      · rw [e]
        exact fnR_dst hc j (k + 1) (by omega) (P.kid1 N e) (by rw [hC, N.hc]; simp only [List.append_assoc]) hd (by omega)
    · rw [decide_eq_false hd]
      show FnR w g m F C a n (dst w a j (k + 1) p1)
      rcases N.k1.shape with ⟨e, _⟩ | ⟨g1, e⟩
      · rw [e, dst_nil]
        refine .inl ⟨rfl, ?_⟩
        rw [hC]
        exact N.none P.lo P.hi P.a0 P.al P.a1 x0 x1 (by omega) n1 (by rw [decide_eq_false hd]; exact e)
      · rw [e]
        exact fnR_dst hc j (k + 1) (by omega) (P.kid0 N e) (by rw [hC, N.hc]; simp only [List.append_assoc]) x0 (by omega)
def fnV (w : World) (g : Nat) (a n : Int) : Value := dst w a n.toNat 0 (ptv g)
theorem fnV_R {w : World} {g : Nat} {m : Int} {F : List Nat} {C : Rws} {a n : Int} (h : Sub w (some m) 0 0 (ptv g) F C) (a0 : 0 ≤ a) (a1 : a ≤ 4294967295) (hc : chkN a n = 0) : FnR w g m F C a n (fnV w g a n) := by
  obtain ⟨n0, n1, nal⟩ := chk_0 hc
  exact fnR_dst hc n.toNat 0 (by omega) (Place.start h) (by rw [List.nil_append, List.append_nil]) a0 (by rw [wid_0]; omega)
def fnE (a n : Int) : Env := { mkEnv0 [] [] [] [] with i := fun j => if j = 20 then a else if j = 21 then n else 0, f := rtF }
structure FnE (a n : Int) (k : Nat) (ρ : Env) : Prop where
  good : ρ.good
  i20 : ρ.i 20 = a
  i21 : ρ.i 21 = n
  i22 : ρ.i 22 = (k : Int)
def gN (g : Nat) : Bn := fun l => if l = 0 then g else 0
def No : Nat → Prop := fun _ => False
def FnJ (w : World) (g : Nat) (m : Int) (F : List Nat) (a n : Int) (ρ : Env) (ac : Act) (w' : World) : Prop :=
  ∃ k pre post o ak b F' c', Place w F g m pre post w o k ak b F' c' ∧ dst w a (n.toNat - k) k (ptv b) = fnV w g a n ∧ FnE a n k ρ ∧ (k : Int) ≤ n ∧ ak ≤ a ∧ a < ak + wid k ∧ ∃ β, Md ρ No w (gN g) 4 (fnT Try.prog Try.f87) β ac w' ∧ β 4 = b
section
variable {w : World} {g : Nat} {m : Int} {F : List Nat} {C : Rws} {a n : Int}
theorem FnE.cx {k : Nat} {ρ : Env} (E : FnE a n k ρ) (a0 : 0 ≤ a) (a1 : a ≤ 4294967295) (n0 : 0 ≤ n) (n1 : n ≤ 32) (hk : (k : Int) ≤ n) : (fnT Try.prog Try.f87).cx.ok ρ := by
  rw [fn_cx]
  refine cxP ⟨?_, ?_, ?_, trivial⟩ trivial
  · show (0 : Int) ≤ ρ.i 22 ∧ ρ.i 22 ≤ 32
    rw [E.i22]; omega
  · show (0 : Int) ≤ ρ.i 20 ∧ ρ.i 20 ≤ 4294967295
    rw [E.i20]; exact ⟨a0, a1⟩
  · show (0 : Int) ≤ ρ.i 21 ∧ ρ.i 21 ≤ 32
    rw [E.i21]; exact ⟨n0, n1⟩
theorem below_no {w' : World} (h : Only No w w') : Below w.heap.size w w' := ⟨h.os, h.tape, h.output, h.size, fun i hi => h.block i hi fun q => q⟩
set_option maxRecDepth 100000 in
set_option maxHeartbeats 1000000 in
theorem fn_round (a0 : 0 ≤ a) (a1 : a ≤ 4294967295) (hc : chkN a n = 0) (m0 : 0 ≤ m) (m1 : m ≤ 64) {ρ : Env} {ac : Act} {w' : World} (hJ : FnJ w g m F a n ρ ac w') :
    (fnLo Try.f87).wp Try.prog (Exit.then (fun a' w' => ∃ j : Env, (n - j.i 22).toNat < (n - ρ.i 22).toNat ∧ FnJ w g m F a n j a' w') (ctx Try.prog fnP (bodyOf Try.f87) (bodyPost Try.prog Try.f87 (RetP fun v w' => v = fnV w g a n ∧ Below w.heap.size w w')))) ac w' := by
  obtain ⟨n0, n1, nal⟩ := chk_0 hc
  obtain ⟨k, pre, post, o, ak, b, F', c', P, hC, E, hkn, x0, x1, β, M, hb⟩ := hJ
  obtain ⟨p1, p2, F1, F2, c1, c2, s, v, N⟩ := P.sub.opn rfl
  have hF'lt := P.sub.lt
  have N' := N.keep (w' := w') fun i hi => M.only.block i (hF'lt i hi) fun q => q
  have hbF : b ∈ F' := by rw [N.hF]; exact List.mem_cons_self ..
  have hbl := hF'lt b hbF
  have hlow := fn_low
  simp only [Bool.and_eq_true] at hlow
  obtain ⟨hlow, ⟨f6, f7⟩, f8, f9⟩ := hlow
  obtain ⟨β1, M1, q6, q8, ql⟩ := nd_in M N' hb (fun m' e => by
    rcases P.root with ⟨e', _⟩ | ⟨e', _⟩
    · rw [e'] at e; injection e with e; omega
    · rw [e'] at e; cases e) (by decide) hlow (by rw [f6, f7, f8, f9]; rfl) false (fun x hx hrx hfx => by
      have hx' := hx
      rw [fn_hp] at hx'
      have e := List.mem_singleton.1 hx'
      subst e
      have := fp_one rfl hfx
      have h2 := (M.may0 _ hx rfl (.inl rfl)).resolve_left fun q => q
      omega) (fun h => by cases h)
  obtain ⟨ρ1, hρ1⟩ : ∃ ρ1, ρ.hi 32 (ndL s v o) = ρ1 := ⟨_, rfl⟩
  rw [hρ1] at M1
  have E1 : FnE a n k ρ1 := by rw [← hρ1]; exact ⟨E.good, E.i20, E.i21, E.i22⟩
  have hmu : (n - ρ.i 22).toNat = (n - ρ1.i 22).toNat := by rw [E.i22, E1.i22]
  rw [hmu]
  have M2 : Md ρ1 No w β1 10 (ndS (fnT Try.prog Try.f87) o.isSome (kidZ p1) (kidZ p2) false) β1 ac w' := ⟨M1.act, M1.hp, M1.ne, M1.may, M1.cx, M1.only, fun _ _ => rfl⟩
  have e0 : β1 0 = g := (ql 0 (by decide)).trans (M.old 0 (by decide))
  have e4 : β1 4 = b := (ql 4 (by decide)).trans hb
  have old : ∀ l, l < 4 → β1 l = gN g l := fun l hl => (ql l (by omega)).trans (M.old l hl)
  clear M M1 hρ1 E
  obtain ⟨d, hd⟩ : ∃ d, decide (ak + wid (k + 1) ≤ a) = d := ⟨_, rfl⟩
  have hsp : ∀ q ∈ [btSp d 22], q.Ok Try.prog ρ1 := fun q hq => by
    rw [List.mem_singleton.1 hq]
    refine btSp_ok (by rw [E1.i20]; exact a0) (by rw [E1.i20]; exact a1) (by rw [E1.i22]; omega) fun h => ?_
    rw [E1.i22] at h
    rw [E1.i20, E1.i22, bit_of (by omega) P.al x0 x1 P.a0, hd]
  -- the loop's end
  have hend : ∀ (βf : Bn) (a2 : Act) (w2 : World), pcs ρ1 [.not (.lt (.iv 22) (.iv 21))] → Md ρ1 No w β1 10 (lfAt (fnR1 Try.prog Try.f87 o.isSome d (kidZ p1) (kidZ p2)) 1) βf a2 w2 → ctx Try.prog fnP (bodyOf Try.f87) (bodyPost Try.prog Try.f87 (RetP fun v w' => v = fnV w g a n ∧ Below w.heap.size w w')) (Ex.exit 0).to a2 w2 := fun βf a2 w2 hpc M3 => by
    have q := hpc.1
    rw [t_not, t_lt] at q
    change ¬ ρ1.i 22 < ρ1.i 21 at q
    rw [E1.i22, E1.i21] at q
    have ekn : n.toNat = k := by omega
    refine aft_fin (B := ⟨ρ1, No, w, β1, 10⟩) (sp := []) (lim := 10) (fuel := 400) E1.good (fun q hq => by cases hq) rfl (.exit 0) (fn_end _ _ _ _) ⟨?_, trivial⟩ M3
    intro _ β4 w4 hH
    refine ⟨?_, below_no hH.only⟩
    show Value.pointer (some ⟨β4 4, 0, none⟩) = _
    rw [show β4 4 = b from (hH.old 4 (show 4 < 10 by decide)).trans e4, ← hC, show n.toNat - k = 0 by omega]
    rfl
  have hz : kidZ (bif d then p2 else p1) = (bif d then kidZ p2 else kidZ p1) := by cases d <;> rfl
  cases hzz : (bif d then kidZ p2 else kidZ p1) with
  | false =>
    refine part_wp (B := ⟨ρ1, No, w, β1, 10⟩) (sp := [btSp d 22]) (lim := 10) (fuel := 400) E1.good hsp rfl (r := fnR1 Try.prog Try.f87 o.isSome d (kidZ p1) (kidZ p2)) rfl (fn_on _ _ _ _ hzz) ⟨?_, ?_, trivial⟩ M2
    · intro hpc β2 a2 w2 M3
      have q := hpc.1
      rw [t_lt] at q
      change ρ1.i 22 < ρ1.i 21 at q
      rw [E1.i22, E1.i21] at q
      have M4 : Md ρ1 No w (gN g) 4 (lfAt (fnR1 Try.prog Try.f87 o.isSome d (kidZ p1) (kidZ p2)) 0) β2 a2 w2 := ⟨M3.act, M3.hp, M3.ne, M3.may, M3.cx, M3.only, fun l hl => (M3.old l (show l < 10 by omega)).trans (old l hl)⟩
      have E2 : ∀ u, FnE a n (k + 1) { ρ1.sub β2 [.i 22 (.add (.iv 22) (.il 1))] with u := u } := fun u => ⟨E1.good, E1.i20, E1.i21, by show ρ1.i 22 + 1 = _; rw [E1.i22]; rfl⟩
      obtain ⟨u, β3, M5, e3⟩ := Sy.Md.enterL M4 (fn_on_m _ _ _ _ hzz) (fun u => (E2 u).cx a0 a1 n0 n1 (by omega))
      have k6 : β2 6 = kidA p1 := (M3.old 6 (show 6 < 10 by decide)).trans q6
      have k8 : β2 8 = kidA p2 := (M3.old 8 (show 8 < 10 by decide)).trans q8
      refine ⟨({ ρ1.sub β2 [.i 22 (.add (.iv 22) (.il 1))] with u := u } : Env), ?_, k + 1, ?_⟩
      · show (n - (ρ1.i 22 + 1)).toNat < (n - ρ1.i 22).toNat
        rw [E1.i22]
        omega
      · have hh := wid_half (k := k) (by omega)
        cases d with
        | false =>
          have hd' := of_decide_eq_false hd
          change kidZ p1 = false at hzz
          rcases N.k1.shape with ⟨e, _⟩ | ⟨g1, e⟩
          · rw [e] at hzz; cases hzz
          · refine ⟨_, _, none, ak, g1, F1, c1, P.kid0 N e, ?_, E2 u, by omega, x0, by omega, β3, M5, ?_⟩
            · rw [← hC, show n.toNat - k = (n.toNat - (k + 1)) + 1 by omega, dst_step N (by omega) P.al x0 x1 P.a0, hd]; exact e ▸ rfl
            · rw [e3]
              show β2 6 = _
              rw [k6, e]; rfl
        | true =>
          have hd' := of_decide_eq_true hd
          change kidZ p2 = false at hzz
          rcases N.k2.shape with ⟨e, _⟩ | ⟨g1, e⟩
          · rw [e] at hzz; cases hzz
          · refine ⟨_, _, none, ak + wid (k + 1), g1, F2, c2, P.kid1 N e, ?_, E2 u, by omega, hd', by omega, β3, M5, ?_⟩
            · rw [← hC, show n.toNat - k = (n.toNat - (k + 1)) + 1 by omega, dst_step N (by omega) P.al x0 x1 P.a0, hd]; exact e ▸ rfl
            · rw [e3]
              show β2 8 = _
              rw [k8, e]; rfl
    · intro hpc β2 a2 w2 M3
      exact hend β2 a2 w2 hpc M3
  | true =>
    refine part_wp (B := ⟨ρ1, No, w, β1, 10⟩) (sp := [btSp d 22]) (lim := 10) (fuel := 400) E1.good hsp rfl (r := fnR1 Try.prog Try.f87 o.isSome d (kidZ p1) (kidZ p2)) rfl (fn_off _ _ _ _ hzz) ⟨?_, ?_, trivial⟩ M2
    · intro hpc β2 a2 w2 M3
      have q := hpc.1
      rw [t_lt] at q
      change ρ1.i 22 < ρ1.i 21 at q
      rw [E1.i22, E1.i21] at q
      refine ctx_ret _ _ _ (ret_post (B := ⟨ρ1, No, w, β1, 10⟩) M3 (retsB_ok (fn_off_r _ _ _ _ hzz) rfl) ⟨?_, below_no M3.only⟩)
      show nilp = _
      rw [← hC, show n.toNat - k = (n.toNat - (k + 1)) + 1 by omega, dst_step N (by omega) P.al x0 x1 P.a0, hd]
      have hk2 : ∀ p : Value, (p = nilp ∨ ∃ g1, p = ptv g1) → kidZ p = true → p = nilp := fun p hp hz => by
        rcases hp with e | ⟨g1, e⟩
        · exact e
        · rw [e] at hz; cases hz
      cases d with
      | false =>
        show nilp = dst w a _ _ p1
        rw [hk2 p1 (N.k1.shape.imp (fun h => h.1) fun h => h) hzz, dst_nil]
      | true =>
        show nilp = dst w a _ _ p2
        rw [hk2 p2 (N.k2.shape.imp (fun h => h.1) fun h => h) hzz, dst_nil]
    · intro hpc β2 a2 w2 M3
      exact hend β2 a2 w2 hpc M3
set_option maxRecDepth 100000 in
/-- find. -/
theorem fnd_calls (h : Sub w (some m) 0 0 (ptv g) F C) (m0 : 0 ≤ m) (m1 : m ≤ 64) (a0 : 0 ≤ a) (a1 : a ≤ 4294967295) (hc : chkN a n = 0) : Calls Try.prog 87 #[ptv g, pfV a n] w (RetP fun v w' => v = fnV w g a n ∧ Below w.heap.size w w') := by
  obtain ⟨n0, n1, nal⟩ := chk_0 hc
  have hM0 : Md (fnE a n) No w (gN g) 4 fnS (gN g) ⟨#[], []⟩ w := Sy.Md.init trivial trivial trivial (cxP ⟨⟨a0, a1⟩, ⟨n0, n1⟩, trivial⟩ trivial) rfl
  refine calls_pre (B := ⟨fnE a n, No, w, gN g, 4⟩) (sp := []) (p := fnP) (xs := pA) (s := fnS) (r := fnR0 Try.prog Try.f87) (fun i => rfl) (fun q hq => by cases hq) rfl Try.func87 rfl rfl fn_run0 hM0 ⟨?_, trivial⟩ rfl
  intro hpc β ac w1 M
  show (Sy.sub fnP (bodyOf Try.f87)).wp Try.prog (ctx Try.prog fnP (bodyOf Try.f87) _) ac w1
  rw [fn_loop]
  have E0 : ∀ u, FnE a n 0 { (fnE a n).sub β [.i 22 (.il 0)] with u := u } := fun u => ⟨fun i => rfl, rfl, rfl, rfl⟩
  obtain ⟨u, β1, M1, e1⟩ := Sy.Md.enterL M fn_match (fun u => (E0 u).cx a0 a1 n0 n1 n0)
  refine wp_loop_ix (ι := Env) (FnJ w g m F a n) (fun j => (n - j.i 22).toNat) (fun j ac w' hJ => fn_round a0 a1 hc m0 m1 hJ) _ ⟨0, [], [], some m, 0, g, F, C, Place.start h, rfl, E0 u, n0, a0, by rw [wid_0]; omega, β1, M1, ?_⟩
  rw [e1]
  exact M.old 0 (show 0 < 4 by decide)
end
end Go.Proofs.Ytnjpoidpfcfbeaa
