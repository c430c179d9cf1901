/- Calls that change a table, in letters: a law once for all. -/
import Derived.Test.YthjigajielhkfaaPi
namespace Go.Proofs.Ythjigajielhkfaa
open Go.RowKit Sy
set_option linter.unusedVariables false
set_option linter.unusedSimpArgs false

/-- The state after such a call: the table under a new letter, the owner's cell, a bound. -/
def mutT (s : Sy.St) (l : Nat) (T : TypeId) (old : Option Nat) (t : Tm) : Sy.St :=
  { s with hp := insBk ⟨s.nx, 50, [], true, none, .tab bdLv t⟩ (replHp ⟨l, T, [.slt s.nx 7 (.il 0) (tlen t) (.il 0)], true, none, .no⟩ (match old with | some k => s.hp.filter fun b => !(Nat.beq b.l k) | none => s.hp)), nx := s.nx + 2, cx := ⟨⟨tlen t, 0, 32⟩ :: s.cx.bs, s.cx.pc⟩ }
theorem mutT_mem {s : Sy.St} {l : Nat} {T : TypeId} {old : Option Nat} {t : Tm} {x : Bk} (h : x ∈ (mutT s l T old t).hp) : x = ⟨s.nx, 50, [], true, none, .tab bdLv t⟩ ∨ x = ⟨l, T, [.slt s.nx 7 (.il 0) (tlen t) (.il 0)], true, none, .no⟩ ∨ (x ∈ s.hp ∧ x.l ≠ l ∧ old ≠ some x.l) := by
  rcases mem_ins h with h | h
  · exact .inl h
  · rcases repl_mem h with h | ⟨h, hl⟩
    · exact .inr (.inl h)
    · refine .inr (.inr ?_)
      cases old with
      | none => exact ⟨h, hl, by simp⟩
      | some k =>
        have := List.mem_filter.1 h
        refine ⟨this.1, hl, fun e => ?_⟩
        injection e with e
        rw [e, Nat.beq_refl] at this
        simp at this
set_option maxHeartbeats 1000000 in
theorem Md.mutT {ρ : Env} {β : Bn} {S : Nat → Prop} {w0 w w' : World} {β0 : Bn} {n0 : Nat} {s : Sy.St} {a : Act} (hM : Md ρ S w0 β0 n0 s β a w) (hn : n0 ≤ s.nx) (hf : s.free s.nx = true) (hf1 : s.free (s.nx + 1) = true)
    {g c g' c' l : Nat} {T : TypeId} {out : List (List Value)} (hG : TabPost w (β l) g c T out w' g' c') {old : Option Nat} {t : Tm} (ht : (den ρ t).c = out) (h32 : out.length ≤ 32)
    {b : Bk} (hb : b ∈ s.hp) (hbl : b.l = l) (hbr : b.real β) (hbw : b.rw = true)
    (ho : c ≠ 0 → ∃ p ∈ s.hp, old = some p.l ∧ p.rw = true ∧ p.real β ∧ g = β p.l) : Md ρ S w0 β0 n0 (mutT s l T old t) (upd (upd β s.nx g') (s.nx + 1) c') a w' := by
  have hf0 := hf
  have hf10 := hf1
  unfold St.free at hf hf1
  simp only [Bool.and_eq_true, List.all_eq_true, Bool.not_eq_true'] at hf hf1
  have old2 : ∀ b ∈ s.hp, (upd (upd β s.nx g') (s.nx + 1) c') b.l = β b.l ∧ (upd (upd β s.nx g') (s.nx + 1) c') (b.l + 1) = β (b.l + 1) ∧ denL ρ (upd (upd β s.nx g') (s.nx + 1) c') b.cs = denL ρ β b.cs := fun b hb =>
    ⟨(upd_old (beq_ne (hf1.2 b hb).1)).trans (upd_old (beq_ne (hf.2 b hb).1)), (upd_old (beq_ne (hf1.2 b hb).2.2)).trans (upd_old (beq_ne (hf.2 b hb).2.2)), (denL_upd ρ (hf1.2 b hb).2.1).trans (denL_upd ρ (hf.2 b hb).2.1)⟩
  have oldr : ∀ b ∈ s.hp, b.real (upd (upd β s.nx g') (s.nx + 1) c') → b.real β := fun b hb hr => hr.imp id (fun h => by rw [← (old2 b hb).2.1]; exact h)
  have e1 : (upd (upd β s.nx g') (s.nx + 1) c') s.nx = g' := (upd_old (by omega)).trans (upd_new ..)
  have e2 : (upd (upd β s.nx g') (s.nx + 1) c') (s.nx + 1) = c' := upd_new ..
  have e3 : (upd (upd β s.nx g') (s.nx + 1) c') l = β l := by rw [← hbl]; exact (old2 b hb).1
  -- the new block is none of the others
  have apart : ∀ y ∈ s.hp, old ≠ some y.l → y.real β → c' ≠ 0 → g' ≠ β y.l := by
    intro y hy hne hry hc'
    have hlt := (hM.hp y hy).lt hry
    rcases hG.at_ with h | ⟨h1, h2⟩ | h
    · exact absurd h hc'
    · obtain ⟨p, hp, hop, _, hpr, hgp⟩ := ho h1
      rw [h2, hgp]
      exact hM.ne p hp y hy (fun e => hne (by rw [hop, e])) hpr hry
    · omega
  refine ⟨?_, ?_, ?_, ?_, ?_, ?_, ?_⟩
  · rw [hM.act]
    congr 2
    apply List.map_congr_left
    intro x hx
    exact ((SV.den_upd ρ (hf1.1 x hx)).trans (SV.den_upd ρ (hf.1 x hx))).symm
  · intro x hx
    rcases mutT_mem hx with rfl | rfl | ⟨hx, hne, hno⟩
    · show RowT w' ((upd (upd β s.nx g') (s.nx + 1) c') s.nx) ((upd (upd β s.nx g') (s.nx + 1) c') (s.nx + 1)) _ bdLv (den ρ t).c
      rw [e1, e2, ht]
      exact hG.row
    · show Blk w' ((upd (upd β s.nx g') (s.nx + 1) c') l) T [sltZ ((upd (upd β s.nx g') (s.nx + 1) c') s.nx) ((upd (upd β s.nx g') (s.nx + 1) c') (s.nx + 1)) 7 0 (den ρ t).c.length 0]
      rw [e1, e2, e3, sltZ_zero, ht]
      exact hG.blk
    · refine BkOk.agree ((hM.hp x hx).keep fun hr => hG.only.block _ ((hM.hp x hx).lt hr) ?_) (old2 x hx).1 (fun _ => (old2 x hx).2.1) (old2 x hx).2.2
      rintro (h | ⟨hc, h⟩)
      · rw [← hbl] at h
        exact hM.ne x hx b hb (by rw [hbl]; exact hne) hr hbr h
      · obtain ⟨p, hp, hop, _, hpr, hgp⟩ := ho hc
        exact hM.ne x hx p hp (fun e => hno (by rw [hop, e])) hr hpr (h.trans hgp)
  · intro x hx y hy hne hrx hry
    rcases mutT_mem hx with rfl | rfl | ⟨hx, hnx, hox⟩ <;> rcases mutT_mem hy with rfl | rfl | ⟨hy, hny, hoy⟩
    · exact absurd rfl hne
    · show (upd (upd β s.nx g') (s.nx + 1) c') s.nx ≠ (upd (upd β s.nx g') (s.nx + 1) c') l
      rw [e1, e3]
      refine (hG.ne ?_).symm
      rcases hrx with h | h
      · cases h
      · rwa [e2] at h
    · rw [(old2 y hy).1]
      show (upd (upd β s.nx g') (s.nx + 1) c') s.nx ≠ _
      rw [e1]
      refine apart y hy hoy (oldr y hy hry) ?_
      rcases hrx with h | h
      · cases h
      · rwa [e2] at h
    · show (upd (upd β s.nx g') (s.nx + 1) c') l ≠ (upd (upd β s.nx g') (s.nx + 1) c') s.nx
      rw [e1, e3]
      refine hG.ne ?_
      rcases hry with h | h
      · cases h
      · rwa [e2] at h
    · exact absurd rfl hne
    · rw [(old2 y hy).1]
      show (upd (upd β s.nx g') (s.nx + 1) c') l ≠ _
      rw [e3, ← hbl]
      exact hM.ne b hb y hy (by rw [hbl]; exact fun e => hny e.symm) hbr (oldr y hy hry)
    · rw [(old2 x hx).1]
      show _ ≠ (upd (upd β s.nx g') (s.nx + 1) c') s.nx
      rw [e1]
      refine (apart x hx hox (oldr x hx hrx) ?_).symm
      rcases hry with h | h
      · cases h
      · rwa [e2] at h
    · rw [(old2 x hx).1]
      show _ ≠ (upd (upd β s.nx g') (s.nx + 1) c') l
      rw [e3, ← hbl]
      exact hM.ne x hx b hb (by rw [hbl]; exact hnx) (oldr x hx hrx) hbr
    · rw [(old2 x hx).1, (old2 y hy).1]
      exact hM.ne x hx y hy hne (oldr x hx hrx) (oldr y hy hry)
  · intro x hx hw hr
    rcases mutT_mem hx with rfl | rfl | ⟨hx, hnx, hox⟩
    · show S ((upd (upd β s.nx g') (s.nx + 1) c') s.nx) ∨ _ ≤ (upd (upd β s.nx g') (s.nx + 1) c') s.nx
      rw [e1]
      rcases hr with h | h
      · cases h
      · rw [e2] at h
        rcases hG.at_ with h' | ⟨h1, h2⟩ | h'
        · exact absurd h' h
        · obtain ⟨p, hp, hop, hpw, hpr, hgp⟩ := ho h1
          rw [h2, hgp]
          exact hM.may p hp hpw hpr
        · exact .inr (Nat.le_trans hM.only.size h')
    · show S ((upd (upd β s.nx g') (s.nx + 1) c') l) ∨ _ ≤ (upd (upd β s.nx g') (s.nx + 1) c') l
      rw [e3, ← hbl]
      exact hM.may b hb hbw hbr
    · rw [(old2 x hx).1]
      exact hM.may x hx hw (oldr x hx hr)
  · refine ⟨fun x hx => ?_, hM.cx.2⟩
    rcases List.mem_cons.1 hx with rfl | hx
    · show (0 : Int) ≤ (((den ρ t).c.length : Nat) : Int) ∧ (((den ρ t).c.length : Nat) : Int) ≤ 32
      rw [ht]
      omega
    · exact hM.cx.1 x hx
  · refine Sy.Only.after hM.only hG.only ?_
    rintro i (h | ⟨hc, h⟩)
    · rw [h, ← hbl]
      exact hM.may b hb hbw hbr
    · obtain ⟨p, hp, hop, hpw, hpr, hgp⟩ := ho hc
      rw [h, hgp]
      exact hM.may p hp hpw hpr
  · intro k hk
    exact ((upd_old (by omega)).trans (upd_old (by omega))).trans (hM.old k hk)
/-- A call on a table: what it answers, what the table is then. -/
def MutRuns (P : Program) (f : FuncId) (T : TypeId) (args : List Value) (rows : List (List Value)) (val : Value) (out : List (List Value)) : Prop := ∀ {w : World} {g0 g c : Nat}, Blk w g0 T [sltV g c rows.length] → RowT w g c 50 bdLv rows → (c ≠ 0 → g0 ≠ g) →
  Calls P f (Value.pointer (some ⟨g0, 0, none⟩) :: args).toArray w (RetP fun v w' => v = val ∧ ∃ g' c', TabPost w g0 g c T out w' g' c')
def rwOk (s : Sy.St) (l : Nat) (ol : Option Nat) : Bool := s.hp.all fun p => p.rw || (!(Nat.beq p.l l) && match ol with | some k => !(Nat.beq p.l k) | none => true)
def mutSp (f : FuncId) (T : TypeId) (arg : Sy.St → List SV → Option (List Tm × Tm × Tm)) (nt : Nat) (res : Tm → Tm → Tm → SV) : Sy.Spec where
  f := f
  pre := fun s xs => match xs with
    | .one (.c (.ptr l o)) :: ys => match ownArg s T l, arg s ys with
      | some (m1, ol, t), some (m2, _, _) => if Nat.beq o 0 && rwOk s l ol then some (m1 ++ (m2 ++ need s.cx (.le (mkTL s.cx t) (.il 32)))) else none
      | _, _ => none
    | _ => none
  go := fun n0 s xs => match xs with
    | .one (.c (.ptr l o)) :: ys => match ownArg s T l, arg s ys with
      | some (_, ol, t), some (_, y, z) => if Nat.ble n0 s.nx && (s.free s.nx && s.free (s.nx + 1)) then some (mutT s l T ol (.ap nt t y z), res t y z) else none
      | _, _ => none
    | _ => none
theorem mutSp_ok {P : Program} {ρ : Env} {f : FuncId} {T : TypeId} {arg : Sy.St → List SV → Option (List Tm × Tm × Tm)} {nt : Nat} {res : Tm → Tm → Tm → SV}
    (h : ∀ {s : Sy.St} {ys : List SV} {m : List Tm} {y z : Tm}, s.cx.ok ρ → arg s ys = some (m, y, z) → Sy.Met ρ m → ∀ (t : Tm) (β : Bn), (den ρ t).c.length ≤ 32 → (∀ r ∈ (den ρ t).c, kAll bdLv r) → ∃ val, (∀ β', (res t y z).den ρ β' = val) ∧ MutRuns P f T (ys.map (SV.den ρ β)) (den ρ t).c val (den ρ (.ap nt t y z)).c ∧ (den ρ (.ap nt t y z)).c.length ≤ 32) : (mutSp f T arg nt res).Ok P ρ := by
  intro B s xs m s' v hB hpre hgo hm β a w hM
  subst hB
  simp only [mutSp] at hpre hgo
  split at hgo
  · rename_i l o ys
    simp only [] at hpre
    split at hgo
    · rename_i m1 ol t m2 y z h1 h2
      rw [h1, h2] at hpre
      simp only [] at hpre
      split at hpre
      · rename_i qo
        simp only [Bool.and_eq_true] at qo
        injection hpre with hpre
        subst hpre
        split at hgo
        · rename_i q
          simp only [Bool.and_eq_true] at q
          injection hgo with hgo
          injection hgo with e1 e2
          subst e1 e2
          obtain ⟨g, c, b, x, hf, hs, hx, hcs, hT, hv, hBk, hR, hl, hne, hol⟩ := ownArg_ok hM h1 hm.l
          have hlen := le_of (need_ok hM.cx hm.r.r)
          rw [mkTL_ok hM.cx] at hlen
          change _ ≤ (32 : Int) at hlen
          obtain ⟨val, hval, hcall, h32⟩ := h hM.cx h2 hm.r.l t β (by omega) hR.ok
          have hmem := find_mem hf
          have hrw := List.all_eq_true.1 qo.2
          have hbw : b.rw = true := by
            have := hrw b hmem.1
            rw [Bool.or_eq_true, Bool.and_eq_true] at this
            rcases this with h | h
            · exact h
            · rw [hmem.2, Nat.beq_refl] at h
              cases h.1
          show Calls P f (Value.pointer (some ⟨β l, o, none⟩) :: ys.map (SV.den B.ρ β)).toArray w _
          rw [Nat.eq_of_beq_eq_true qo.1]
          refine (hcall hBk hR hne).mono ?_
          rintro e w' ⟨v, rfl, rfl, g', c', hG⟩
          refine ⟨_, a, by rw [hval], Md.mutT hM (Nat.le_of_ble_eq_true q.1) q.2.1 q.2.2 hG rfl h32 hmem.1 hmem.2 (Bk.fixed hs hx β) hbw fun hc => ?_⟩
          obtain ⟨p, hp, hop, hpr, hgp⟩ := hol hc
          refine ⟨p, hp, hop, ?_, hpr, hgp⟩
          have := hrw p hp
          rw [Bool.or_eq_true, Bool.and_eq_true] at this
          rcases this with h | h
          · exact h
          · rw [hop] at h
            have h2 : (!(Nat.beq p.l p.l)) = true := h.2
            rw [Nat.beq_refl] at h2
            cases h2
        · cases hgo
      · cases hpre
    · cases hgo
  · cases hgo
end Go.Proofs.Ythjigajielhkfaa
/- Bounds: what check, Bind and Pick say: plain; Specs. -/
namespace Go.Proofs.Ythjigajielhkfaa
open Go.RowKit Sy
set_option linter.unusedVariables false
set_option linter.unusedSimpArgs false

def chkE (b : List Value) : Int := if (gI .i64 b 0 = 6 ∨ gI .i64 b 0 = 17) ∧ (1 ≤ gI .i64 b 2 ∧ gI .i64 b 2 ≤ 65535) ∧ (0 ≤ gI .i64 b 4 ∧ gI .i64 b 4 ≤ 65535) ∧ (gI .i64 b 4 = 0 → gI .u32 b 3 = 0) ∧ (gI .i64 b 4 ≠ 0 → gI .u32 b 1 ≠ 0) then 0 else 1
def bindE (rows : List (List Value)) (b : List Value) : Int := if chkE b ≠ 0 then chkE b else if (rows.any fun a => clF a b) = true then 15 else if 32 ≤ rows.length then 9 else 0
def bindR (rows : List (List Value)) (b : List Value) : List (List Value) := if bindE rows b = 0 then rows ++ [b] else rows
theorem bindR_len {rows : List (List Value)} {b : List Value} (h : rows.length ≤ 32) : (bindR rows b).length ≤ 32 := by
  unfold bindR
  split
  · rename_i h0
    unfold bindE at h0
    split at h0
    · rename_i h1; exact absurd h0 h1
    · split at h0
      · cases h0
      · split at h0
        · cases h0
        · simp only [List.length_append, List.length_cons, List.length_nil]
          omega
  · exact h
def place (seed : Int) (i : Nat) : Int := 49152 + (seed + (i : Int)) % 64
def setP (b : List Value) (p : Int) : List Value := b.set 2 (.int .i64 p)
def pickI (rows : List (List Value)) (b : List Value) (seed : Int) : Option Nat := (List.range 64).find? fun i => !(rows.any fun a => clF a (setP b (place seed i)))
def pickE (rows : List (List Value)) (b : List Value) (seed : Int) : Int := if chkE (setP b 49152) ≠ 0 then chkE (setP b 49152) else match pickI rows b seed with
  | none => 15
  | some i => bindE rows (setP b (place seed i))
def pickP (rows : List (List Value)) (b : List Value) (seed : Int) : Int := if chkE (setP b 49152) ≠ 0 then 0 else match pickI rows b seed with
  | none => 0
  | some i => if bindE rows (setP b (place seed i)) = 0 then place seed i else 0
def pickR (rows : List (List Value)) (b : List Value) (seed : Int) : List (List Value) := if chkE (setP b 49152) ≠ 0 then rows else match pickI rows b seed with
  | none => rows
  | some i => bindR rows (setP b (place seed i))
theorem pickR_len {rows : List (List Value)} {b : List Value} {seed : Int} (h : rows.length ≤ 32) : (pickR rows b seed).length ≤ 32 := by
  unfold pickR
  split
  · exact h
  · split
    · exact h
    · exact bindR_len h
/-- What the function letters stand for, all of them. -/
def plH : Nat → Dn → Dn → Dn → Dn := fun n x y z =>
  if n = 47 then dC (pickR x.c (y.c.headD []) z.i)
  else if n = 48 then dI (pickP x.c (y.c.headD []) z.i)
  else if n = 49 then dI (pickE x.c (y.c.headD []) z.i)
  else if n = 50 then dC (bindR x.c (y.c.headD []))
  else if n = 51 then dI (bindE x.c (y.c.headD []))
  else if n = 52 then dI (chkE (x.c.headD []))
  else if n = 53 then dI (if (kept (gI .i64 (y.c.headD []) 0) x.c).length = x.c.length then 7 else 0)
  else plG n x y z
def ChkRuns (P : Program) (f : FuncId) : Prop := ∀ {w : World} {b : List Value}, kAll bdLv b → Calls P f #[.agg b.toArray] w (RetP fun v w' => v = .int .i64 (chkE b) ∧ Below w.heap.size w w')
def chkSp (f : FuncId) : Sy.Spec where
  f := f
  pre := fun s xs => match xs with
    | [.one (.agg cs)] => match rowsTm s.cx bdLv 1 cs with
      | some (m, _) => if Nat.beq cs.length 7 then some m else none
      | none => none
    | _ => none
  go := fun _ s xs => match xs with
    | [.one (.agg cs)] => match rowsTm s.cx bdLv 1 cs with
      | some (_, r) => some (s, .one (.c (.int .i64 (.ap 52 r (.il 0) (.il 0)))))
      | none => none
    | _ => none
theorem chkSp_ok {P : Program} {ρ : Env} {f : FuncId} (E : ChkRuns P f) (hF : ρ.f 52 = plH 52) : (chkSp f).Ok P ρ := by
  intro B s xs m s' v hB hpre hgo hm β a w hM
  subst hB
  simp only [chkSp] at hpre hgo
  split at hgo
  · rename_i cs
    simp only [] at hpre
    split at hgo
    · rename_i m1 r h1
      rw [h1] at hpre
      simp only [] at hpre
      split at hpre
      · rename_i q
        injection hpre with hpre
        injection hgo with hgo
        injection hgo with e1 e2
        subst hpre e1 e2
        obtain ⟨b1, b2⟩ := row1_ok (β := β) hM.cx h1 q hm
        refine (E b2).mono ?_
        rintro e w' ⟨v, rfl, rfl, hb⟩
        refine ⟨β, a, ?_, ⟨hM.act, fun b hb' => (hM.hp b hb').below hb, hM.ne, hM.may, hM.cx, hM.only.then_below hb, hM.old⟩⟩
        show _ = Ending.returned (.int .i64 (B.ρ.f 52 _ _ _).i)
        rw [hF]
        show _ = Ending.returned (.int .i64 (chkE ((den B.ρ r).c.headD [])))
        rw [b1]
        rfl
      · cases hpre
    · cases hgo
  · cases hgo
/-! Bind, Drop, Pick in letters. -/
def bdArg (s : Sy.St) : List SV → Option (List Tm × Tm × Tm)
  | [.one (.agg cs)] => match rowsTm s.cx bdLv 1 cs with
    | some (m, r) => if Nat.beq cs.length 7 then some (m, r, .il 0) else none
    | none => none
  | _ => none
def drArg (s : Sy.St) : List SV → Option (List Tm × Tm × Tm)
  | [.one (.c (.int .i64 o))] => some (inK s.cx .i64 o, .tb (.cons (.int .i64)) o trow (.il 0), .il 0)
  | _ => none
def pkArg (s : Sy.St) : List SV → Option (List Tm × Tm × Tm)
  | [.one (.agg cs), .one (.c (.int .i64 sd))] => match rowsTm s.cx bdLv 1 cs with
    | some (m, r) => if Nat.beq cs.length 7 then some (m ++ inK s.cx .i64 sd, r, sd) else none
    | none => none
  | _ => none
def bindSp (f : FuncId) (T : TypeId) : Sy.Spec := mutSp f T bdArg 50 fun t y z => .one (.c (.int .i64 (.ap 51 t y z)))
def dropSp (f : FuncId) (T : TypeId) : Sy.Spec := mutSp f T drArg 41 fun t y z => .one (.c (.int .i64 (.ap 53 t y z)))
def pickSp (f : FuncId) (T : TypeId) : Sy.Spec := mutSp f T pkArg 47 fun t y z => .tup [.c (.int .i64 (.ap 48 t y z)), .c (.int .i64 (.ap 49 t y z))]
def BindRuns (P : Program) (f : FuncId) (T : TypeId) : Prop := ∀ {rows : List (List Value)} {b : List Value}, rows.length ≤ 32 → (∀ r ∈ rows, kAll bdLv r) → kAll bdLv b → MutRuns P f T [.agg b.toArray] rows (.int .i64 (bindE rows b)) (bindR rows b)
def PickRuns (P : Program) (f : FuncId) (T : TypeId) : Prop := ∀ {rows : List (List Value)} {b : List Value} {sd : Int}, rows.length ≤ 32 → (∀ r ∈ rows, kAll bdLv r) → kAll bdLv b → IntKind.i64.wrap sd = sd → MutRuns P f T [.agg b.toArray, .int .i64 sd] rows (.tuple #[.int .i64 (pickP rows b sd), .int .i64 (pickE rows b sd)]) (pickR rows b sd)
section
variable {P : Program} {ρ : Env} {f : FuncId} {T : TypeId}
theorem bindSp_ok (E : BindRuns P f T) (h50 : ρ.f 50 = plH 50) (h51 : ρ.f 51 = plH 51) : (bindSp f T).Ok P ρ := by
  refine mutSp_ok ?_
  intro s ys m y z hc h hm t β hl hk
  unfold bdArg at h
  split at h
  · rename_i cs
    split at h
    · rename_i m1 r h1
      split at h
      · rename_i q
        injection h with h
        injection h with e1 e2
        injection e2 with e2 e3
        subst e1 e2 e3
        obtain ⟨b1, b2⟩ := row1_ok (β := β) hc h1 q hm
        have hh : (den ρ r).c.headD [] = denL ρ β cs := by rw [b1]; rfl
        have eT : (den ρ (.ap 50 t r (.il 0))).c = bindR (den ρ t).c (denL ρ β cs) := by
          show (ρ.f 50 _ _ _).c = _
          rw [h50]
          show bindR (den ρ t).c ((den ρ r).c.headD []) = _
          rw [hh]
        refine ⟨.int .i64 (bindE (den ρ t).c (denL ρ β cs)), fun β' => ?_, ?_, ?_⟩
        · show Value.int .i64 (ρ.f 51 _ _ _).i = _
          rw [h51]
          show Value.int .i64 (bindE (den ρ t).c ((den ρ r).c.headD [])) = _
          rw [hh]
        · rw [eT]
          exact E hl hk b2
        · rw [eT]
          exact bindR_len hl
      · cases h
    · cases h
  · cases h
theorem pickSp_ok (E : PickRuns P f T) (h47 : ρ.f 47 = plH 47) (h48 : ρ.f 48 = plH 48) (h49 : ρ.f 49 = plH 49) : (pickSp f T).Ok P ρ := by
  refine mutSp_ok ?_
  intro s ys m y z hc h hm t β hl hk
  unfold pkArg at h
  split at h
  · rename_i cs sd
    split at h
    · rename_i m1 r h1
      split at h
      · rename_i q
        injection h with h
        injection h with e1 e2
        injection e2 with e2 e3
        subst e1 e2 e3
        obtain ⟨b1, b2⟩ := row1_ok (β := β) hc h1 q hm.l
        have b3 := inK_ok hc hm.r
        have hh : (den ρ r).c.headD [] = denL ρ β cs := by rw [b1]; rfl
        have eT : (den ρ (.ap 47 t r sd)).c = pickR (den ρ t).c (denL ρ β cs) (den ρ sd).i := by
          show (ρ.f 47 _ _ _).c = _
          rw [h47]
          show pickR (den ρ t).c ((den ρ r).c.headD []) _ = _
          rw [hh]
        refine ⟨.tuple #[.int .i64 (pickP (den ρ t).c (denL ρ β cs) (den ρ sd).i), .int .i64 (pickE (den ρ t).c (denL ρ β cs) (den ρ sd).i)], fun β' => ?_, ?_, ?_⟩
        · show Value.tuple #[.int .i64 (ρ.f 48 _ _ _).i, .int .i64 (ρ.f 49 _ _ _).i] = _
          rw [h48, h49]
          show Value.tuple #[.int .i64 (pickP (den ρ t).c ((den ρ r).c.headD []) _), .int .i64 (pickE (den ρ t).c ((den ρ r).c.headD []) _)] = _
          rw [hh]
        · rw [eT]
          exact E hl hk b2 (wrap_in b3.1 b3.2)
        · rw [eT]
          exact pickR_len hl
      · cases h
    · cases h
  · cases h
theorem dropSp_ok (E : DropRuns P f T) (h41 : ρ.f 41 = plF 41) (h53 : ρ.f 53 = plH 53) : (dropSp f T).Ok P ρ := by
  refine mutSp_ok ?_
  intro s ys m y z hc h hm t β hl hk
  unfold drArg at h
  split at h
  · rename_i o
    injection h with h
    injection h with e1 e2
    injection e2 with e2 e3
    subst e1 e2 e3
    have b3 := inK_ok hc hm
    have hw : IntKind.i64.wrap (den ρ o).i = (den ρ o).i := wrap_in b3.1 b3.2
    have hh : gI .i64 ((den ρ (.tb (.cons (.int .i64)) o trow (.il 0))).c.headD []) 0 = (den ρ o).i := by
      show IntKind.i64.wrap (den ρ o).i = _
      exact hw
    have eT : (den ρ (.ap 41 t (.tb (.cons (.int .i64)) o trow (.il 0)) (.il 0))).c = kept (den ρ o).i (den ρ t).c := by
      show (ρ.f 41 _ _ _).c = _
      rw [h41]
      show (den ρ t).c.filter (fun a => !owF (gI .i64 ((den ρ (.tb (.cons (.int .i64)) o trow (.il 0))).c.headD []) 0) a) = _
      rw [hh]
      rfl
    refine ⟨.int .i64 (if (kept (den ρ o).i (den ρ t).c).length = (den ρ t).c.length then 7 else 0), fun β' => ?_, ?_, ?_⟩
    · show Value.int .i64 (ρ.f 53 _ _ _).i = _
      rw [h53]
      show Value.int .i64 (if (kept (gI .i64 ((den ρ (.tb (.cons (.int .i64)) o trow (.il 0))).c.headD []) 0) (den ρ t).c).length = (den ρ t).c.length then 7 else 0) = _
      rw [hh]
    · rw [eT]
      intro w g0 g c h1 h2 h3
      exact E h1 h2 (by omega) h3 hw
    · rw [eT]
      exact Nat.le_trans (List.length_filter_le ..) hl
  · cases h
end
end Go.Proofs.Ythjigajielhkfaa
/- Bounds: check and Bind, both. -/
namespace Go.Proofs.Ythjigajielhkfaa
open Go.RowKit Sy
set_option linter.unusedVariables false
set_option linter.unusedSimpArgs false

def tbBs : List Bd := ⟨tlen (.cv 0), 0, 32⟩ :: [i64B 20, u32B 21, i64B 22, u32B 23, i64B 24, i64B 26]
def tbOb (T : TypeId) : Bk := ⟨0, T, [bdSl], true, none, .no⟩
def tbTb : Bk := ⟨40, 50, [], true, none, .tab bdLv (.cv 0)⟩
/-- A table that may be changed, its owner's cell. -/
theorem md_tab {ρ : Env} {β : Bn} {w : World} {T : TypeId} {cx : Cx} {nx : Nat} (hB : Blk w (β 0) T [sltV (β 40) (β 41) (ρ.c 0).length]) (hT : RowT w (β 40) (β 41) 50 bdLv (ρ.c 0)) (hne : β 41 ≠ 0 → β 0 ≠ β 40) (hcx : cx.ok ρ) :
    Md ρ (fun i => i = β 0 ∨ β 41 ≠ 0 ∧ i = β 40) w β 50 ⟨[], [tbOb T, tbTb], cx, nx⟩ β ⟨#[], []⟩ w := by
  have hreal : Bk.real β tbTb → β 41 ≠ 0 := fun hr => hr.resolve_left (by simp [tbTb, Bk.nilable, Xt.isTab])
  refine ⟨rfl, fun x hx => ?_, fun x hx y hy hxy hrx hry => ?_, fun x hx hw hr => ?_, hcx, Only.refl _ _, fun _ _ => rfl⟩
  · change x ∈ [_, _] at hx
    simp only [List.mem_cons, List.not_mem_nil, or_false] at hx
    rcases hx with rfl | rfl
    · show Blk w (β 0) _ [sltZ (β 40) (β 41) 7 0 (ρ.c 0).length 0]
      rw [sltZ_zero]
      exact hB
    · exact hT
  · change x ∈ [_, _] at hx
    change y ∈ [_, _] at hy
    simp only [List.mem_cons, List.not_mem_nil, or_false] at hx hy
    rcases hx with rfl | rfl <;> rcases hy with rfl | rfl
    · exact absurd rfl hxy
    · exact hne (hreal hry)
    · exact (hne (hreal hrx)).symm
    · exact absurd rfl hxy
  · change x ∈ [_, _] at hx
    simp only [List.mem_cons, List.not_mem_nil, or_false] at hx
    rcases hx with rfl | rfl
    · exact .inl (.inl rfl)
    · exact .inl (.inr ⟨hreal hr, rfl⟩)
/-- What an end leaves of the table. -/
theorem leaf_post {ρ : Env} {β0 β : Bn} {w w' : World} {hp : List Bk} {n0 : Nat} (h50 : n0 = 50) (hH : Hp ρ (fun i => i = β0 0 ∨ β0 41 ≠ 0 ∧ i = β0 40) w β0 n0 hp β w') {k : Nat} {T : TypeId} {len t : Tm} {rw_ : Bool} (h1 : (⟨0, T, [.slt k 7 (.il 0) len (.il 0)], rw_, none, .no⟩ : Bk) ∈ hp) (h2 : (⟨k, 50, [], true, none, .tab bdLv t⟩ : Bk) ∈ hp) (hlen : (den ρ len).i = ((den ρ t).c.length : Int)) (hk : k ≠ 0) :
    TabPost w (β0 0) (β0 40) (β0 41) T (den ρ t).c w' (β k) (β (k + 1)) := by
  subst h50
  have hb := hH.hp _ h1
  have hb : Blk w' (β 0) T [sltZ (β k) (β (k + 1)) 7 0 (den ρ len).i.toNat 0] := hb
  have ht := hH.hp _ h2
  have ht : RowT w' (β k) (β (k + 1)) 50 bdLv (den ρ t).c := ht
  rw [hH.old 0 (show 0 < 50 by decide), sltZ_zero, hlen, Int.toNat_natCast] at hb
  have hne : β (k + 1) ≠ 0 → β0 0 ≠ β k := fun hc => by
    have := hH.ne _ h1 _ h2 (fun e => hk e.symm) (.inl rfl) (.inr hc)
    have this : β 0 ≠ β k := this
    rw [hH.old 0 (show 0 < 50 by decide)] at this
    exact this
  refine ⟨hb, ht, ?_, hne, hH.only⟩
  by_cases hc : β (k + 1) = 0
  · exact .inl hc
  · rcases hH.may _ h2 rfl (.inr hc) with (h | ⟨hc0, h⟩) | h
    · exact absurd (show β k = β0 0 from h).symm (hne hc)
    · exact .inr (.inl ⟨hc0, h⟩)
    · exact .inr (.inr h)
theorem tb_bs {F : Nat → Dn → Dn → Dn → Dn} {rows : List (List Value)} {b : List Value} (hn : rows.length ≤ 32) {ρ : Env} (h : But0 (bdEnv F rows b) ρ) : Bds ρ tbBs := by
  have hb := bd_bs (show rows.length ≤ 4000 by omega) h
  intro x hx
  rcases List.mem_cons.1 hx with rfl | hx
  · have hc : ρ.c 0 = rows := by rw [h.c]; rfl
    show (0 : Int) ≤ (((ρ.c 0).length : Nat) : Int) ∧ (((ρ.c 0).length : Nat) : Int) ≤ 32
    rw [hc]
    omega
  · exact hb x (List.mem_cons_of_mem _ hx)
theorem but_self (ρ : Env) : But0 ρ ρ := ⟨fun _ _ => rfl, rfl, rfl, rfl, rfl, rfl⟩
def chA : List SV := [.one (.agg bdC)]
def chSt : Sy.St := ⟨[], [], ⟨[i64B 20, u32B 21, i64B 22, u32B 23, i64B 24, i64B 26], []⟩, 50⟩
def bnA : List SV := [.one (.c (.ptr 0 0)), .one (.agg bdC)]
def tbSt (T : TypeId) : Sy.St := ⟨[], [tbOb T, tbTb], ⟨tbBs, []⟩, 50⟩
end Go.Proofs.Ythjigajielhkfaa
