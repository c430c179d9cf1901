/- Routes: the contract of node.prune. -/
import Derived.Test.YtnjpoidpfcfbeaaRoutC
import Derived.Test.YtnjpoidpfcfbeaaSyRg
namespace Go.Proofs.Ytnjpoidpfcfbeaa
open Go.RowKit Sy
set_option linter.unusedVariables false
set_option linter.unusedSimpArgs false

/-- A tree as a thing of many blocks. -/
def subT (o : Option Int) (k : Nat) (a : Int) : Thing where
  P := fun w g Fp c => ∃ F, Sub w o k a (ptv g) F c ∧ ∀ i, Fp i ↔ i ∈ F
  keep := fun ⟨F, h, hF⟩ hk => ⟨F, h.keep fun i hi => hk i ((hF i).2 hi), hF⟩
  lt := fun ⟨F, h, hF⟩ i hi => h.lt i ((hF i).1 hi)
  root := fun ⟨F, h, hF⟩ => (hF _).2 h.root_in
def ownB (l fl j : Nat) (ty : TypeId) (t : Tm) : Bk := ⟨l, ty, [.ptr fl 0], true, none, .own j t⟩
theorem bits_P (F : List Nat) : (fun i => (bitsOf F).testBit i = true) = fun i => i ∈ F := funext fun i => propext (bitsOf_test i F)
/-- A call that turns a thing of many blocks. -/
theorem own_chg {ρ : Env} {β : Bn} {w w' : World} {s : Sy.St} {l fl n j : Nat} {ty : TypeId} {t t' : Tm} (hl : l + 1 < s.nx) (hn : s.nx ≤ n) (hd : ownB l fl j ty t ∈ s.hp) {F F' : List Nat} (hF : ∀ i, (β fl).testBit i = true ↔ i ∈ F)
    (hP : (ρ.o j).P w' (β l) (fun i => i ∈ F') (den ρ t').c) (hO : Only (fun i => i ∈ F) w w') (hf : ∀ i ∈ F', i ∈ F ∨ w.heap.size ≤ i) :
    Chg ρ β (upd β n (bitsOf F')) w w' s [] [] [] (some (ownB l n j ty t')) := by
  have e0 : upd β n (bitsOf F') l = β l := upd_old (by omega)
  have e1 : upd β n (bitsOf F') n = bitsOf F' := upd_new ..
  have inF : ∀ i, i ∈ F → fp β (ownB l fl j ty t) i := fun i hi => .inr ⟨rfl, (hF i).2 hi⟩
  refine ⟨hO.mono fun i _ hi => .inr (.inr ⟨_, rfl, _, hd, rfl, ⟨rfl, rfl⟩, inF i hi⟩), fun k hk => upd_old (by omega), fun _ h => (by cases h), fun _ h => (by cases h), fun b hb => ?_, fun _ h => (by cases h), fun _ h => (by cases h), fun _ h => (by cases h)⟩
  injection hb with hb
  subst hb
  have hroot : β l ∈ F' := (ρ.o j).root hP
  refine ⟨?_, fun i hi => ?_⟩
  · show (ρ.o j).P w' (upd β n (bitsOf F') l) (fun i => (upd β n (bitsOf F') n).testBit i = true) (den ρ t').c
    rw [e0, e1, bits_P]
    exact hP
  · have hi' : i ∈ F' := by
      rcases hi with hi | ⟨_, hi⟩
      · change i = upd β n (bitsOf F') l at hi
        rw [hi, e0]; exact hroot
      · change (upd β n (bitsOf F') n).testBit i = true at hi
        rw [e1, bitsOf_test] at hi
        exact hi
    exact (hf i hi').imp (fun q => ⟨_, hd, rfl, ⟨rfl, rfl⟩, inF i q⟩) (fun q => q)
/-- The thing of many blocks under letter l. -/
def ownG (s : Sy.St) (l : Nat) : Option (TypeId × Nat × Nat × Tm) := match find l s.hp with
  | some ⟨_, ty, [.ptr fl 0], true, none, .own j t⟩ => if Nat.blt (l + 1) s.nx then some (ty, fl, j, t) else none
  | _ => none
theorem ownG_ok {s : Sy.St} {l : Nat} {ty : TypeId} {fl j : Nat} {t : Tm} (h : ownG s l = some (ty, fl, j, t)) : ownB l fl j ty t ∈ s.hp ∧ l + 1 < s.nx := by
  unfold ownG at h
  split at h
  · rename_i l' ty' fl' j' t' hf
    split at h
    · rename_i q
      injection h with h
      injection h with h1 h
      injection h with h2 h
      injection h with h3 h4
      subst h1 h2 h3 h4
      have := find_mem hf
      have e : l' = l := this.2
      subst e
      exact ⟨this.1, blt_lt q⟩
    · cases h
  · cases h
/-- What prune leaves. -/
def PrPost (w : World) (o : Option Int) (k : Nat) (a : Int) (b : Nat) (F : List Nat) (c : Rws) (v : Value) (w' : World) : Prop := v = .bool c.isEmpty ∧ ∃ F', Sub w' o k a (ptv b) F' c ∧ Only (fun i => i ∈ F) w w' ∧ ∀ i ∈ F', i ∈ F ∨ w.heap.size ≤ i
def prSel (s : Sy.St) : List SV → Option Did
  | [.one (.c (.ptr l 0))] => match ownG s l with
    | some (ty, fl, j, t) => if Nat.blt j 3 then some ⟨[], [], [], [], .one (.c (.bool (.ap 32 t (.il 0) (.il 0)))), [], some (ownB l s.nx j ty t)⟩ else none
    | none => none
  | _ => none
def prSp : Sy.Spec := chgSp 92 prSel
theorem prSp_ok {ρ : Env} (hf : ρ.f = rtF) (h : ∀ j, j < 3 → ∃ o k a, ρ.o j = subT o k a ∧ ∀ {w g F c}, Sub w o k a (ptv g) F c → Calls Try.prog 92 #[ptv g] w (RetP (PrPost w o k a g F c))) : prSp.Ok Try.prog ρ := by
  refine chgSp_ok fun {s xs d} hs hc hm {β w} hb hne => ?_
  unfold prSel at hs
  split at hs
  · rename_i l
    split at hs
    · rename_i ty fl j t hfo
      split at hs
      · rename_i hj
        injection hs with hs
        subst hs
        obtain ⟨hd, hlx⟩ := ownG_ok hfo
        obtain ⟨o, k, a, ho, hcalls⟩ := h j (blt_lt hj)
        have hB : (ρ.o j).P w (β l) (fun i => (β fl).testBit i = true) (den ρ t).c := hb _ hd
        have ho' := ho
        rw [ho] at hB
        obtain ⟨F, hS, hF⟩ := hB
        refine ⟨fun y hy => (by cases hy), (hcalls hS).mono ?_⟩
        rintro e' w' ⟨v, rfl, rfl, F', h1, h2, h3⟩
        refine ⟨_, ?_, own_chg hlx (Nat.le_refl _) hd hF (by rw [ho']; exact ⟨F', h1, fun i => Iff.rfl⟩) h2 h3⟩
        show _ = Ending.returned (.bool (ρ.f 32 (den ρ t) _ _).b)
        rw [hf]
        rfl
      · cases hs
    · cases hs
  · cases hs
def own6 : Bk := ownB 6 7 1 163 (.cv 1)
def own8 : Bk := ownB 8 9 2 163 (.cv 2)
def prHp (rt z1 z2 : Bool) : List Bk := ndB rt z1 z2 true :: ((bif z1 then [] else [own6]) ++ (bif z2 then [] else [own8]))
def prA : List SV := [.one (.c (.ptr 4 0))]
def prSt (rt z1 z2 : Bool) : Sy.St := ⟨[], prHp rt z1 z2, ⟨ndBs 32, []⟩, 40⟩
def prR (P : Program) (fn : Func) (rt z1 z2 : Bool) : Rs := run P [prSp] 10 400 10 (.code (bodyOf fn)) (enterS fn prA (prSt rt z1 z2))
def eT (j : Nat) : Tm := .ap 32 (.cv j) (.il 0) (.il 0)
def sT (s : Bool) : Tm := bif s then .bv 32 else .not (.bv 32)
def mT (e : Bool) (j : Nat) : Tm := bif e then eT j else .not (eT j)
/-- A leaf: which kids have gone, was the node set. -/
def prLf (rt z1 z2 e1 e2 s : Bool) (f6 f8 : Nat) (pc : List Tm) : Sm := .ret (.one (.c (.bool (.bl (!s && (e1 && e2)))))) (ndB rt e1 e2 true :: ((bif z1 then [] else [ownB 6 f6 1 163 (.cv 1)]) ++ (bif z2 then [] else [ownB 8 f8 2 163 (.cv 2)]))) pc
def prL : Bool → Bool → Bool → List Sm
  | rt, true, true => [prLf rt true true true true false 0 0 [sT false], prLf rt true true true true true 0 0 [sT true]]
  | rt, false, true => [prLf rt false true true true false 40 0 [sT false, mT true 1], prLf rt false true true true true 40 0 [sT true, mT true 1], prLf rt false true false true false 40 0 [sT false, mT false 1], prLf rt false true false true true 40 0 [sT true, mT false 1]]
  | rt, true, false => [prLf rt true false true true false 0 40 [mT true 2, sT false], prLf rt true false true false false 0 40 [mT false 2, sT false], prLf rt true false true true true 0 40 [mT true 2, sT true], prLf rt true false true false true 0 40 [mT false 2, sT true]]
  | rt, false, false => [prLf rt false false true true false 40 42 [mT true 2, sT false, mT true 1], prLf rt false false true false false 40 42 [mT false 2, sT false, mT true 1], prLf rt false false true true true 40 42 [mT true 2, sT true, mT true 1], prLf rt false false true false true 40 42 [mT false 2, sT true, mT true 1],
     prLf rt false false false true false 40 42 [mT true 2, sT false, mT false 1], prLf rt false false false false false 40 42 [mT false 2, sT false, mT false 1], prLf rt false false false true true 40 42 [mT true 2, sT true, mT false 1], prLf rt false false false false true 40 42 [mT false 2, sT true, mT false 1]]
set_option maxRecDepth 100000 in
theorem pr_run : ∀ rt z1 z2 : Bool, smR Try.prog Try.f92 10 (prR Try.prog Try.f92 rt z1 z2) = some (prL rt z1 z2) := by
  intro rt z1 z2
  cases rt <;> cases z1 <;> cases z2 <;> kernel_rfl
def prE (k : Nat) (a : Int) (o : Option Int) (s : Bool) (v : Int) (c1 c2 : Rws) : Env := { mkEnv0 [] [] [] [] with
  i := fun n => if n = 33 then v else if n = 34 then o.getD 0 else 0
  b := fun n => if n = 32 then s else false
  c := fun n => if n = 1 then c1 else if n = 2 then c2 else []
  f := rtF
  o := fun n => if n = 2 then subT none (k + 1) (a + wid (k + 1)) else subT none (k + 1) a }
def prN (b : Nat) (p1 p2 : Value) (F1 F2 : List Nat) : Bn := fun l => if l = 4 then b else if l = 6 then kidA p1 else if l = 7 then bitsOf F1 else if l = 8 then kidA p2 else if l = 9 then bitsOf F2 else 0
section
variable {w : World} {o : Option Int} {k : Nat} {a : Int} {b : Nat} {F : List Nat} {c : Rws} {p1 p2 : Value} {F1 F2 : List Nat} {c1 c2 : Rws} {s : Bool} {v : Int}
theorem prE_nd : NdE 32 s v o (prE k a o s v c1 c2) := ⟨rfl, rfl, rfl⟩
/-- The blocks at its end. -/
theorem pr_leaf (N : Nd w o k a b F c p1 p2 F1 F2 c1 c2 s v) {e1 e2 : Bool} {f6 f8 : Nat} {bv : Bool} {hp : List Bk} {β : Bn} {w2 : World} (hhp : hp = ndB o.isSome e1 e2 true :: ((bif kidZ p1 then [] else [ownB 6 f6 1 163 (.cv 1)]) ++ (bif kidZ p2 then [] else [ownB 8 f8 2 163 (.cv 2)])))
    (hH : Hp (prE k a o s v c1 c2) (fun i => i ∈ F) w (prN b p1 p2 F1 F2) 10 hp β w2) (h1 : kidZ p1 = true → e1 = true) (h2 : kidZ p2 = true → e2 = true) (g1 : e1 = true → c1 = []) (g2 : e2 = true → c2 = []) (hv : bv = c.isEmpty) : PrPost w o k a b F c (.bool bv) w2 := by
  refine ⟨by rw [hv], ?_⟩
  have b4 : β 4 = b := hH.old 4 (by decide)
  have b6 : β 6 = kidA p1 := hH.old 6 (by decide)
  have b8 : β 8 = kidA p2 := hH.old 8 (by decide)
  have m4 : ndB o.isSome e1 e2 true ∈ hp := by rw [hhp]; exact List.mem_cons_self ..
  have hB : Blk w2 (β 4) (bif o.isSome then 165 else 163) (denL (prE k a o s v c1 c2) β (kc 6 e1 :: kc 8 e2 :: Sy.C.bool (.bv 32) :: Sy.C.int .i64 (.iv 33) :: (bif o.isSome then [Sy.C.int .i64 (.iv 34)] else []))) := hH.hp _ m4
  have hden := nd_den (h := 32) prE_nd (ρ := prE k a o s v c1 c2) (o := o) (st := s) (v := v) β (kc 6 e1) (kc 8 e2)
  rw [show (32 + 1 : Nat) = 33 from rfl, show (32 + 2 : Nat) = 34 from rfl] at hden
  rw [hden, b4] at hB
  have K : ∀ (l f j : Nat) (kk : Nat) (aa : Int) (p : Value) (G : List Nat) (cc : Rws) (e : Bool), Sub w none kk aa p G cc → (kidZ p = true → e = true) → (e = true → cc = []) → β l = kidA p → (prE k a o s v c1 c2).o j = subT none kk aa → (prE k a o s v c1 c2).c j = cc → (kidZ p = false → ownB l f j 163 (.cv j) ∈ hp) → l ≠ 4 →
      ∃ G', Sub w2 none kk aa ((kc l e).den (prE k a o s v c1 c2) β) G' cc ∧ ∀ i ∈ G', (i ∈ F ∨ w.heap.size ≤ i) ∧ (e = false ∧ fp β (ownB l f j 163 (.cv j)) i) := by
    intro l f j kk aa p G cc e hS hz hcc hl ho hcj hm hl4
    cases e with
    | true => exact ⟨[], by rw [hcc rfl]; exact .nil _ _, fun i hi => by cases hi⟩
    | false =>
      have hpz : kidZ p = false := by
        cases q : kidZ p with
        | false => rfl
        | true => exact (hz q).symm
      have hm := hm hpz
      have hT : ((prE k a o s v c1 c2).o j).P w2 (β l) (bitF β [.ptr f 0]) ((prE k a o s v c1 c2).c j) := hH.hp _ hm
      rw [ho, hcj] at hT
      obtain ⟨G', hS', hG'⟩ := hT
      refine ⟨G', hS', fun i hi => ⟨?_, rfl, ?_⟩⟩
      · exact hH.may _ hm rfl (.inl rfl) i (.inr ⟨rfl, (hG' i).2 hi⟩)
      · exact .inr ⟨rfl, (hG' i).2 hi⟩
  have mm : kidZ p1 = false → ownB 6 f6 1 163 (.cv 1) ∈ hp := fun q => by
    rw [hhp, q]
    exact List.mem_cons_of_mem _ (List.mem_append_left _ (List.mem_cons_self ..))
  obtain ⟨G1, S1, i1⟩ := K 6 f6 1 (k + 1) a p1 F1 c1 e1 N.k1 h1 g1 b6 rfl rfl mm (by decide)
  obtain ⟨G2, S2, i2⟩ := K 8 f8 2 (k + 1) (a + wid (k + 1)) p2 F2 c2 e2 N.k2 h2 g2 b8 rfl rfl (fun q => by
    rw [hhp, q]
    exact List.mem_cons_of_mem _ (List.mem_append_right _ (List.mem_cons_self ..))) (by decide)
  have m6 : e1 = false → ownB 6 f6 1 163 (.cv 1) ∈ hp := fun q => mm (by
    cases q2 : kidZ p1 with
    | false => rfl
    | true => have := h1 q2; rw [q] at this; cases this)
  have m8 : e2 = false → ownB 8 f8 2 163 (.cv 2) ∈ hp := fun q => by
    have : kidZ p2 = false := by
      cases q2 : kidZ p2 with
      | false => rfl
      | true => have := h2 q2; rw [q] at this; cases this
    rw [hhp, this]
    exact List.mem_cons_of_mem _ (List.mem_append_right _ (List.mem_cons_self ..))
  have hbF : b ∈ F := by rw [N.hF]; exact List.mem_cons_self ..
  refine ⟨b :: (G1 ++ G2), ?_, hH.only, fun i hi => ?_⟩
  · rw [N.hc]
    refine .node N.hk ?_ S1 S2 ?_ N.v0 N.v1
    · cases o <;> exact hB
    · rw [List.nodup_cons, List.nodup_append]
      refine ⟨fun q => ?_, S1.nodup, S2.nodup, fun x hx y hy e => ?_⟩
      · rcases List.mem_append.1 q with q | q
        · obtain ⟨_, e0, hfp⟩ := i1 b q
          exact hH.ne _ (m6 e0) _ m4 (by show (6 : Nat) ≠ 4; decide) (.inl rfl) (.inl rfl) b hfp (.inl b4.symm)
        · obtain ⟨_, e0, hfp⟩ := i2 b q
          exact hH.ne _ (m8 e0) _ m4 (by show (8 : Nat) ≠ 4; decide) (.inl rfl) (.inl rfl) b hfp (.inl b4.symm)
      · subst e
        obtain ⟨_, e0, hfp⟩ := i1 x hx
        obtain ⟨_, e0', hfp'⟩ := i2 x hy
        exact hH.ne _ (m6 e0) _ (m8 e0') (by show (6 : Nat) ≠ 8; decide) (.inl rfl) (.inl rfl) x hfp hfp'
  · rcases List.mem_cons.1 hi with rfl | hi
    · exact .inl hbF
    rcases List.mem_append.1 hi with hi | hi
    · exact (i1 i hi).1
    · exact (i2 i hi).1
theorem ownR_nil {s : Bool} {a : Int} {k : Nat} {v : Int} : (ownR s a k v).isEmpty = !s := by cases s <;> rfl
theorem pr_kidF {w : World} {kk : Nat} {aa : Int} {p : Value} {G : List Nat} {cc : Rws} (h : Sub w none kk aa p G cc) : (kidZ p = true → cc = [] ∧ G = []) ∧ (kidZ p = false → p = ptv (kidA p)) := by
  rcases h.shape with ⟨e, eG, ec⟩ | ⟨g, e⟩
  · exact ⟨fun _ => ⟨ec, eG⟩, fun q => (by rw [e] at q; cases q)⟩
  · exact ⟨fun q => (by rw [e] at q; cases q), fun _ => (by rw [e]; rfl)⟩
set_option maxRecDepth 100000 in
set_option maxHeartbeats 2000000 in
theorem pr_step (N : Nd w o k a b F c p1 p2 F1 F2 c1 c2 s v) (ho : ∀ m, o = some m → 0 ≤ m ∧ m ≤ 64) (ih : ∀ {w a g F c}, Sub w none (k + 1) a (ptv g) F c → Calls Try.prog 92 #[ptv g] w (RetP (PrPost w none (k + 1) a g F c))) : Calls Try.prog 92 #[ptv b] w (RetP (PrPost w o k a b F c)) := by
  obtain ⟨z1c, z1p⟩ := pr_kidF N.k1
  obtain ⟨z2c, z2p⟩ := pr_kidF N.k2
  have hd := N.hd
  rw [List.nodup_cons, List.nodup_append] at hd
  obtain ⟨hd0, hd1, hd2, hd3⟩ := hd
  have hbF : b ∈ F := by rw [N.hF]; exact List.mem_cons_self ..
  have in1 : ∀ i ∈ F1, i ∈ F := fun i hi => by rw [N.hF]; exact List.mem_cons_of_mem _ (List.mem_append_left _ hi)
  have in2 : ∀ i ∈ F2, i ∈ F := fun i hi => by rw [N.hF]; exact List.mem_cons_of_mem _ (List.mem_append_right _ hi)
  have o6 : kidZ p1 = false → BkOk (prE k a o s v c1 c2) (prN b p1 p2 F1 F2) w own6 := fun q => by
    show ∃ G, Sub w none (k + 1) a (ptv (kidA p1)) G c1 ∧ ∀ i, (bitsOf F1).testBit i = true ↔ i ∈ G
    refine ⟨F1, ?_, fun i => bitsOf_test i F1⟩
    rw [← z1p q]
    exact N.k1
  have o8 : kidZ p2 = false → BkOk (prE k a o s v c1 c2) (prN b p1 p2 F1 F2) w own8 := fun q => by
    show ∃ G, Sub w none (k + 1) (a + wid (k + 1)) (ptv (kidA p2)) G c2 ∧ ∀ i, (bitsOf F2).testBit i = true ↔ i ∈ G
    refine ⟨F2, ?_, fun i => bitsOf_test i F2⟩
    rw [← z2p q]
    exact N.k2
  have f6 : kidZ p1 = false → ∀ i, fp (prN b p1 p2 F1 F2) own6 i → i ∈ F1 := fun q i hi => by
    have hr : kidA p1 ∈ F1 := by
      have := N.k1
      rw [z1p q] at this
      exact this.root_in
    rcases hi with hi | ⟨_, hi⟩
    · change i = kidA p1 at hi
      rw [hi]; exact hr
    · exact (bitsOf_test i F1).1 hi
  have f8 : kidZ p2 = false → ∀ i, fp (prN b p1 p2 F1 F2) own8 i → i ∈ F2 := fun q i hi => by
    have hr : kidA p2 ∈ F2 := by
      have := N.k2
      rw [z2p q] at this
      exact this.root_in
    rcases hi with hi | ⟨_, hi⟩
    · change i = kidA p2 at hi
      rw [hi]; exact hr
    · exact (bitsOf_test i F2).1 hi
  have hB4 : BkOk (prE k a o s v c1 c2) (prN b p1 p2 F1 F2) w (ndB o.isSome (kidZ p1) (kidZ p2) true) := by
    show Blk w b (bif o.isSome then 165 else 163) (denL (prE k a o s v c1 c2) (prN b p1 p2 F1 F2) (kc 6 (kidZ p1) :: kc 8 (kidZ p2) :: Sy.C.bool (.bv 32) :: Sy.C.int .i64 (.iv 33) :: (bif o.isSome then [Sy.C.int .i64 (.iv 34)] else [])))
    have hden := nd_den (h := 32) prE_nd (ρ := prE k a o s v c1 c2) (o := o) (st := s) (v := v) (prN b p1 p2 F1 F2) (kc 6 (kidZ p1)) (kc 8 (kidZ p2))
    rw [show (32 + 1 : Nat) = 33 from rfl, show (32 + 2 : Nat) = 34 from rfl] at hden
    rw [hden, kc_den N.k1 _ _ 6 rfl, kc_den N.k2 _ _ 8 rfl]
    have hB := N.blk
    cases o <;> exact hB
  have ap46 : kidZ p1 = false → apart (prN b p1 p2 F1 F2) (ndB o.isSome (kidZ p1) (kidZ p2) true) own6 := fun q i h1 h2 => by
    have e := fp_one rfl h1
    change i = b at e
    subst e
    exact hd0 (List.mem_append_left _ (f6 q i h2))
  have ap48 : kidZ p2 = false → apart (prN b p1 p2 F1 F2) (ndB o.isSome (kidZ p1) (kidZ p2) true) own8 := fun q i h1 h2 => by
    have e := fp_one rfl h1
    change i = b at e
    subst e
    exact hd0 (List.mem_append_right _ (f8 q i h2))
  have ap68 : kidZ p1 = false → kidZ p2 = false → apart (prN b p1 p2 F1 F2) own6 own8 := fun q1 q2 i h1 h2 => hd3 i (f6 q1 i h1) i (f8 q2 i h2) rfl
  have my4 : ∀ i, fp (prN b p1 p2 F1 F2) (ndB o.isSome (kidZ p1) (kidZ p2) true) i → i ∈ F := fun i hi => by
    have e := fp_one rfl hi
    change i = b at e
    rw [e]; exact hbF
  have hcx : (prSt o.isSome (kidZ p1) (kidZ p2)).cx.ok (prE k a o s v c1 c2) := by
    refine cxP ⟨?_, ?_, trivial⟩ trivial
    · show _ ≤ v ∧ v ≤ _
      exact ⟨N.v0, N.v1⟩
    · show (0 : Int) ≤ o.getD 0 ∧ o.getD 0 ≤ 64
      cases o with
      | none => exact ⟨by show (0 : Int) ≤ 0; omega, by show (0 : Int) ≤ 64; omega⟩
      | some m => exact ho m rfl
  have hM : Md (prE k a o s v c1 c2) (fun i => i ∈ F) w (prN b p1 p2 F1 F2) 10 (prSt o.isSome (kidZ p1) (kidZ p2)) (prN b p1 p2 F1 F2) ⟨#[], []⟩ w := by
    refine Sy.Md.init ?_ ?_ ?_ hcx rfl
    · show hpP _ _ _ (prHp o.isSome (kidZ p1) (kidZ p2))
      unfold prHp
      refine ⟨hB4, ?_⟩
      cases q1 : kidZ p1 <;> cases q2 : kidZ p2
      · exact ⟨o6 q1, o8 q2, trivial⟩
      · exact ⟨o6 q1, trivial⟩
      · exact ⟨o8 q2, trivial⟩
      · trivial
    · show neP _ (prHp o.isSome (kidZ p1) (kidZ p2))
      unfold prHp
      cases q1 : kidZ p1 <;> cases q2 : kidZ p2 <;> rw [q1, q2] at ap46 ap48
      · exact ⟨⟨fun _ _ => ap46 rfl, fun _ _ => ap48 rfl, trivial⟩, ⟨fun _ _ => ap68 q1 q2, trivial⟩, trivial, trivial⟩
      · exact ⟨⟨fun _ _ => ap46 rfl, trivial⟩, trivial, trivial⟩
      · exact ⟨⟨fun _ _ => ap48 rfl, trivial⟩, trivial, trivial⟩
      · exact ⟨trivial, trivial⟩
    · show mayP _ _ (prHp o.isSome (kidZ p1) (kidZ p2))
      unfold prHp
      refine ⟨fun _ _ i hi => my4 i hi, ?_⟩
      cases q1 : kidZ p1 <;> cases q2 : kidZ p2
      · exact ⟨fun _ _ i hi => in1 i (f6 q1 i hi), fun _ _ i hi => in2 i (f8 q2 i hi), trivial⟩
      · exact ⟨fun _ _ i hi => in1 i (f6 q1 i hi), trivial⟩
      · exact ⟨fun _ _ i hi => in2 i (f8 q2 i hi), trivial⟩
      · trivial
  have hsp : ∀ q ∈ [prSp], q.Ok Try.prog (prE k a o s v c1 c2) := fun q hq => by
    rw [List.mem_singleton.1 hq]
    refine prSp_ok rfl fun j _ => ?_
    show ∃ o' k' a', (if j = 2 then subT none (k + 1) (a + wid (k + 1)) else subT none (k + 1) a) = subT o' k' a' ∧ _
    by_cases h2 : j = 2
    · exact ⟨none, k + 1, a + wid (k + 1), if_pos h2, fun h => ih h⟩
    · exact ⟨none, k + 1, a, if_neg h2, fun h => ih h⟩
  have hnil : ∀ {l : Rws}, l.isEmpty = true → l = [] := fun {l} h => List.isEmpty_iff.1 h
  refine calls_sm (B := ⟨prE k a o s v c1 c2, fun i => i ∈ F, w, prN b p1 p2 F1 F2, 10⟩) (sp := [prSp]) (fun i => rfl) hsp 10 400 Try.func92 rfl prA (prSt o.isSome (kidZ p1) (kidZ p2)) _ 10 rfl (pr_run _ _ _) hM (R := PrPost w o k a b F c) ?_ rfl
  have leaf : ∀ {e1 e2 s' : Bool} {f6 f8 : Nat} {pc : List Tm}, (pcs (prE k a o s v c1 c2) pc → s' = s ∧ (e1 = true → c1 = []) ∧ (e2 = true → c2 = []) ∧ (e1 = false → c1 ≠ []) ∧ (e2 = false → c2 ≠ [])) → (kidZ p1 = true → e1 = true) → (kidZ p2 = true → e2 = true) → Sm.done ⟨prE k a o s v c1 c2, fun i => i ∈ F, w, prN b p1 p2 F1 F2, 10⟩ (PrPost w o k a b F c) (prLf o.isSome (kidZ p1) (kidZ p2) e1 e2 s' f6 f8 pc) := by
    intro e1 e2 s' f6 f8 pc hpc hz1 hz2 hp β w2 hH
    obtain ⟨es, t1, t2, t3, t4⟩ := hpc hp
    subst es
    refine pr_leaf N (bv := !s' && (e1 && e2)) rfl hH hz1 hz2 t1 t2 ?_
    rw [N.hc]
    have iea : ∀ x y : Rws, (x ++ y).isEmpty = (x.isEmpty && y.isEmpty) := fun x y => by cases x <;> rfl
    rw [iea, iea, ownR_nil]
    have q1 : c1.isEmpty = e1 := by
      cases e1 with
      | true => rw [t1 rfl]; rfl
      | false => cases c1 with
        | nil => exact absurd rfl (t3 rfl)
        | cons => rfl
    have q2 : c2.isEmpty = e2 := by
      cases e2 with
      | true => rw [t2 rfl]; rfl
      | false => cases c2 with
        | nil => exact absurd rfl (t4 rfl)
        | cons => rfl
    rw [q1, q2]
  have tS : ∀ x : Bool, (den (prE k a o s v c1 c2) (sT x)).b = true → x = s := fun x h => by
    cases x with
    | true => exact (show s = true from h).symm
    | false =>
      have : (!s) = true := h
      cases s with
      | false => rfl
      | true => cases this
  have tM1 : ∀ e : Bool, (den (prE k a o s v c1 c2) (mT e 1)).b = true → (e = true → c1 = []) ∧ (e = false → c1 ≠ []) := fun e h => by
    cases e with
    | true =>
      have : c1.isEmpty = true := h
      exact ⟨fun _ => hnil this, fun q => (by cases q)⟩
    | false =>
      have : (!c1.isEmpty) = true := h
      exact ⟨fun q => (by cases q), fun _ q => by rw [q] at this; cases this⟩
  have tM2 : ∀ e : Bool, (den (prE k a o s v c1 c2) (mT e 2)).b = true → (e = true → c2 = []) ∧ (e = false → c2 ≠ []) := fun e h => by
    cases e with
    | true =>
      have : c2.isEmpty = true := h
      exact ⟨fun _ => hnil this, fun q => (by cases q)⟩
    | false =>
      have : (!c2.isEmpty) = true := h
      exact ⟨fun q => (by cases q), fun _ q => by rw [q] at this; cases this⟩
  cases q1 : kidZ p1 <;> cases q2 : kidZ p2 <;> rw [q1, q2] at leaf
  · have go : ∀ (s' e1 e2 : Bool), Sm.done ⟨prE k a o s v c1 c2, fun i => i ∈ F, w, prN b p1 p2 F1 F2, 10⟩ (PrPost w o k a b F c) (prLf o.isSome false false e1 e2 s' 40 42 [mT e2 2, sT s', mT e1 1]) := fun s' e1 e2 => leaf (fun h => ⟨tS s' h.2.1, (tM1 e1 h.2.2.1).1, (tM2 e2 h.1).1, (tM1 e1 h.2.2.1).2, (tM2 e2 h.1).2⟩) (fun q => by cases q) (fun q => by cases q)
    exact ⟨go false true true, go false true false, go true true true, go true true false, go false false true, go false false false, go true false true, go true false false, trivial⟩
  · have n2 : c2 = [] := (z2c q2).1
    have go : ∀ (s' e1 : Bool), Sm.done ⟨prE k a o s v c1 c2, fun i => i ∈ F, w, prN b p1 p2 F1 F2, 10⟩ (PrPost w o k a b F c) (prLf o.isSome false true e1 true s' 40 0 [sT s', mT e1 1]) := fun s' e1 => leaf (fun h => ⟨tS s' h.1, (tM1 e1 h.2.1).1, fun _ => n2, (tM1 e1 h.2.1).2, fun q => (by cases q)⟩) (fun q => by cases q) (fun q => rfl)
    exact ⟨go false true, go true true, go false false, go true false, trivial⟩
  · have n1 : c1 = [] := (z1c q1).1
    have go : ∀ (s' e2 : Bool), Sm.done ⟨prE k a o s v c1 c2, fun i => i ∈ F, w, prN b p1 p2 F1 F2, 10⟩ (PrPost w o k a b F c) (prLf o.isSome true false true e2 s' 0 40 [mT e2 2, sT s']) := fun s' e2 => leaf (fun h => ⟨tS s' h.2.1, fun _ => n1, (tM2 e2 h.1).1, fun q => (by cases q), (tM2 e2 h.1).2⟩) (fun q => rfl) (fun q => by cases q)
    exact ⟨go false true, go false false, go true true, go true false, trivial⟩
  · have n1 : c1 = [] := (z1c q1).1
    have n2 : c2 = [] := (z2c q2).1
    have go : ∀ (s' : Bool), Sm.done ⟨prE k a o s v c1 c2, fun i => i ∈ F, w, prN b p1 p2 F1 F2, 10⟩ (PrPost w o k a b F c) (prLf o.isSome true true true true s' 0 0 [sT s']) := fun s' => leaf (fun h => ⟨tS s' h.1, fun _ => n1, fun _ => n2, fun q => (by cases q), fun q => (by cases q)⟩) (fun q => rfl) (fun q => rfl)
    exact ⟨go false, go true, trivial⟩
end
theorem prune_calls : ∀ (d : Nat) {w : World} {o : Option Int} {k : Nat} {a : Int} {b : Nat} {F : List Nat} {c : Rws}, 33 ≤ k + d → (∀ m, o = some m → 0 ≤ m ∧ m ≤ 64) → Sub w o k a (ptv b) F c → Calls Try.prog 92 #[ptv b] w (RetP (PrPost w o k a b F c))
  | 0, w, o, k, a, b, F, c, hd, ho, h => by
    obtain ⟨_, _, _, _, _, _, _, _, N⟩ := h.opn rfl
    have := N.hk
    omega
  | d + 1, w, o, k, a, b, F, c, hd, ho, h => by
    obtain ⟨_, _, _, _, _, _, _, _, N⟩ := h.opn rfl
    exact pr_step N ho fun h' => prune_calls d (by omega) (fun m q => by cases q) h'
end Go.Proofs.Ytnjpoidpfcfbeaa
/- Routes: the contract of Table.Drop. -/
namespace Go.Proofs.Ytnjpoidpfcfbeaa
open Go.RowKit Sy
set_option linter.unusedVariables false
set_option linter.unusedSimpArgs false

def drR0 (P : Program) (fn : Func) (z : Bool) : Rs := run P [ckSp, fiSp z] 10 400 4 (.code (pre opP (bodyOf fn))) (enterS fn pA opS)
set_option maxRecDepth 100000 in
theorem dr_run0 : ∀ z : Bool, shR 4 none (drR0 Try.prog Try.f54 z) = some [.out 0 .ret [adN0], .out 1 .normal [adE0]]
  | true => by kernel_rfl
  | false => by kernel_rfl
set_option maxRecDepth 100000 in
theorem dr_ret0 : ∀ z : Bool, retsB Try.prog Try.f54 (drR0 Try.prog Try.f54 z) (.one (.c (.int .i64 (.ap 20 (.iv 20) (.iv 21) (.il 0))))) [0] = true
  | true => by kernel_rfl
  | false => by kernel_rfl
def drS0 (P : Program) (fn : Func) (z : Bool) : Sy.St := { lfAt (drR0 P fn z) 1 with hp := [], cx := ⟨[], []⟩ }
def drM (P : Program) (fn : Func) (z : Bool) : Sy.St := tplK (drS0 P fn z) [0] [(6, .one (.c (fiV' z)))] [] ⟨[], []⟩ 100
set_option maxRecDepth 100000 in
theorem dr_m0 : ∀ z : Bool, (matchS 4 (drM Try.prog Try.f54 z) (drS0 Try.prog Try.f54 z)).map noU = some []
  | true => by kernel_rfl
  | false => by kernel_rfl
def drM1 (P : Program) (fn : Func) (l : Nat) : Sy.St := { drM P fn false with tm := (drM P fn false).tm.set 6 (.one (.c (.ptr l 0))) }
def drB1 (P : Program) (fn : Func) (z1 z2 y1 y2 : Bool) : Sy.St := ndSG (ndSG (drM1 P fn 4) 4 6 32 false z1 z2 true) 0 12 36 true y1 y2 true
def drB2 (P : Program) (fn : Func) (y1 y2 : Bool) : Sy.St := ndSG (drM1 P fn 0) 0 12 36 true y1 y2 true
def drRe (fn : Func) : Code := Sy.sub opP (bodyOf fn)
def drRB (P : Program) (fn : Func) (s : Sy.St) : Rs := run P [] 10 400 62 (.code (pre [1, 1, 1] (drRe fn))) s
set_option maxRecDepth 100000 in
theorem dr_runB0 : shR 62 none (drRB Try.prog Try.f54 (drM Try.prog Try.f54 true)) = some [.out 0 .ret []] := by kernel_rfl
set_option maxRecDepth 100000 in
theorem dr_retB0 : retsB Try.prog Try.f54 (drRB Try.prog Try.f54 (drM Try.prog Try.f54 true)) (.one (.c (.int .i64 (.il 7)))) [0] = true := by kernel_rfl
set_option maxRecDepth 100000 in
theorem dr_runB2 : ∀ y1 y2 : Bool, shR 62 none (drRB Try.prog Try.f54 (drB2 Try.prog Try.f54 y1 y2)) = some [.out 0 .ret [.not (.bv 36)], .out 1 .normal [.bv 36]] := by
  intro y1 y2
  cases y1 <;> cases y2 <;> kernel_rfl
set_option maxRecDepth 100000 in
theorem dr_runB1 : ∀ z1 z2 y1 y2 : Bool, shR 62 none (drRB Try.prog Try.f54 (drB1 Try.prog Try.f54 z1 z2 y1 y2)) = some [.out 0 .ret [.not (.bv 32)], .out 1 .normal [.bv 32]] := by
  intro z1 z2 y1 y2
  cases z1 <;> cases z2 <;> cases y1 <;> cases y2 <;> kernel_rfl
set_option maxRecDepth 100000 in
theorem dr_retB2 : ∀ y1 y2 : Bool, retsB Try.prog Try.f54 (drRB Try.prog Try.f54 (drB2 Try.prog Try.f54 y1 y2)) (.one (.c (.int .i64 (.il 7)))) [0] = true := by
  intro y1 y2
  cases y1 <;> cases y2 <;> kernel_rfl
set_option maxRecDepth 100000 in
theorem dr_retB1 : ∀ z1 z2 y1 y2 : Bool, retsB Try.prog Try.f54 (drRB Try.prog Try.f54 (drB1 Try.prog Try.f54 z1 z2 y1 y2)) (.one (.c (.int .i64 (.il 7)))) [0] = true := by
  intro z1 z2 y1 y2
  cases z1 <;> cases z2 <;> cases y1 <;> cases y2 <;> kernel_rfl
def drG0 (y1 y2 : Bool) : Bk := ⟨0, 165, [kc 12 y1, kc 14 y2, .bool (.bl false), .int .i64 (.iv 37), .int .i64 (.add (.iv 38) (.il (-1)))], true, none, .no⟩
def drG1 (y1 y2 : Bool) : Bk := ⟨0, 165, [kc 12 y1, kc 14 y2, .bool (.bv 36), .int .i64 (.iv 37), .int .i64 (.add (.iv 38) (.il (-1)))], true, none, .no⟩
def drG4 (z1 z2 : Bool) : Bk := ⟨4, 163, [kc 6 z1, kc 8 z2, .bool (.bl false), .int .i64 (.iv 33)], true, none, .no⟩
set_option maxRecDepth 100000 in
theorem dr_bk2 : ∀ y1 y2 : Bool, find 0 (lfAt (drRB Try.prog Try.f54 (drB2 Try.prog Try.f54 y1 y2)) 1).hp = some (drG0 y1 y2) := by
  intro y1 y2
  cases y1 <;> cases y2 <;> kernel_rfl
set_option maxRecDepth 100000 in
theorem dr_bk1 : ∀ z1 z2 y1 y2 : Bool, (find 0 (lfAt (drRB Try.prog Try.f54 (drB1 Try.prog Try.f54 z1 z2 y1 y2)) 1).hp, find 4 (lfAt (drRB Try.prog Try.f54 (drB1 Try.prog Try.f54 z1 z2 y1 y2)) 1).hp) = (some (drG1 y1 y2), some (drG4 z1 z2)) := by
  intro z1 z2 y1 y2
  cases z1 <;> cases z2 <;> cases y1 <;> cases y2 <;> kernel_rfl
set_option maxRecDepth 100000 in
theorem dr_bk2' : ∀ y1 y2 : Bool, find 0 (lfAt (drRB Try.prog Try.f54 (drB2 Try.prog Try.f54 y1 y2)) 0).hp = some (ndG 0 12 36 true y1 y2 true) := by
  intro y1 y2
  cases y1 <;> cases y2 <;> kernel_rfl
set_option maxRecDepth 100000 in
theorem dr_bk1' : ∀ z1 z2 y1 y2 : Bool, (find 0 (lfAt (drRB Try.prog Try.f54 (drB1 Try.prog Try.f54 z1 z2 y1 y2)) 0).hp, find 4 (lfAt (drRB Try.prog Try.f54 (drB1 Try.prog Try.f54 z1 z2 y1 y2)) 0).hp) = (some (ndG 0 12 36 true y1 y2 true), some (ndG 4 6 32 false z1 z2 true)) := by
  intro z1 z2 y1 y2
  cases z1 <;> cases z2 <;> cases y1 <;> cases y2 <;> kernel_rfl
theorem same_on {S : Nat → Prop} {w w' : World} (ho : Only S w w') (h : ∀ i, S i → w'.heap[i]? = w.heap[i]?) : Below w.heap.size w w' :=
  ⟨ho.os, ho.tape, ho.output, ho.size, fun i hi => by
    by_cases e : S i
    · exact h i e
    · exact ho.block i hi e⟩
set_option maxRecDepth 100000 in
theorem dr_mhp : ∀ z : Bool, (drM Try.prog Try.f54 z).hp = []
  | true => by kernel_rfl
  | false => by kernel_rfl
set_option maxRecDepth 100000 in
theorem dr_m10 : (lowSt 36 (drM1 Try.prog Try.f54 0) && (((drM1 Try.prog Try.f54 0).free 12 && (drM1 Try.prog Try.f54 0).free 13) && ((drM1 Try.prog Try.f54 0).free 14 && (drM1 Try.prog Try.f54 0).free 15))) = true := by kernel_rfl
set_option maxRecDepth 100000 in
theorem dr_m14 : (lowSt 32 (drM1 Try.prog Try.f54 4) && (((drM1 Try.prog Try.f54 4).free 6 && (drM1 Try.prog Try.f54 4).free 7) && ((drM1 Try.prog Try.f54 4).free 8 && (drM1 Try.prog Try.f54 4).free 9))) = true := by kernel_rfl
set_option maxRecDepth 100000 in
theorem dr_m14' : ∀ z1 z2 : Bool, (lowSt 36 (ndSG (drM1 Try.prog Try.f54 4) 4 6 32 false z1 z2 true) && (((ndSG (drM1 Try.prog Try.f54 4) 4 6 32 false z1 z2 true).free 12 && (ndSG (drM1 Try.prog Try.f54 4) 4 6 32 false z1 z2 true).free 13) && ((ndSG (drM1 Try.prog Try.f54 4) 4 6 32 false z1 z2 true).free 14 && (ndSG (drM1 Try.prog Try.f54 4) 4 6 32 false z1 z2 true).free 15))) = true := by
  intro z1 z2
  cases z1 <;> cases z2 <;> kernel_rfl
set_option maxRecDepth 100000 in
theorem dr_m4 : ((drM Try.prog Try.f54 false).free 4 && (drM Try.prog Try.f54 false).free 5) = true := by kernel_rfl
set_option maxRecDepth 100000 in
theorem dr_m6 : (drM Try.prog Try.f54 false).tm.getD 6 undS = .one (.c (.ptv (.iv 50))) := by kernel_rfl
/-! The rest: prune. -/
def plainV (n : Nat) : SV → Bool
  | .any _ => true
  | .one (.c (.ptr l _)) => !(Nat.beq l n)
  | _ => false
theorem plain_den {ρ ρ' : Env} {β β' : Bn} (hu : ρ'.u = ρ.u) {n : Nat} (hβ : ∀ l, l ≠ n → β' l = β l) {v : SV} (h : plainV n v = true) : v.den ρ' β' = v.den ρ β := by
  unfold plainV at h
  split at h
  · show ρ'.u _ = ρ.u _
    rw [hu]
  · rename_i l k
    show Value.pointer (some ⟨β' l, k, none⟩) = Value.pointer (some ⟨β l, k, none⟩)
    rw [hβ l (beq_ne (by simpa using h))]
  · cases h
def drEm (s : Sy.St) : Sy.St := { s with hp := [], cx := ⟨[], []⟩ }
def drX (P : Program) (fn : Func) : Sy.St := tplK (drEm (lfAt (drRB P fn (drB2 P fn true true)) 1)) [0] [] [] ⟨[], []⟩ 100
def drY (P : Program) (fn : Func) : Sy.St := { drX P fn with hp := [ownB 0 1 0 165 (.cv 0)] }
set_option maxRecDepth 100000 in
theorem dr_x2 : ∀ y1 y2 : Bool, (matchS 4 (drX Try.prog Try.f54) (drEm (lfAt (drRB Try.prog Try.f54 (drB2 Try.prog Try.f54 y1 y2)) 1))).map noU = some [] := by
  intro y1 y2
  cases y1 <;> cases y2 <;> kernel_rfl
set_option maxRecDepth 100000 in
theorem dr_x1 : ∀ z1 z2 y1 y2 : Bool, (matchS 4 (drX Try.prog Try.f54) (drEm (lfAt (drRB Try.prog Try.f54 (drB1 Try.prog Try.f54 z1 z2 y1 y2)) 1))).map noU = some [] := by
  intro z1 z2 y1 y2
  cases z1 <;> cases z2 <;> cases y1 <;> cases y2 <;> kernel_rfl
set_option maxRecDepth 100000 in
theorem dr_end : smR Try.prog Try.f54 4 (run Try.prog [prSp] 10 400 4 (.code (Sy.sub [1, 1, 1] (drRe Try.f54))) (drY Try.prog Try.f54)) = some [.ret (.one (.c (.int .i64 (.il 0)))) [ownB 0 100 0 165 (.cv 0)] []] := by kernel_rfl
set_option maxRecDepth 100000 in
theorem dr_xx : (drX Try.prog Try.f54).tm.all (plainV 1) = true ∧ (drX Try.prog Try.f54).hp = [] ∧ (drX Try.prog Try.f54).cx = ⟨[], []⟩ := by
  refine ⟨?_, ?_, ?_⟩ <;> kernel_rfl
def DrPost (w : World) (g : Nat) (F : List Nat) (C : Rws) (a n : Int) (v : Value) (w' : World) : Prop := v = .int .i64 (drC C a n) ∧ TabGo w w' g F (drR C a n)
section
variable {w : World} {g : Nat} {F : List Nat} {C : Rws} {a n : Int}
set_option maxRecDepth 100000 in
theorem dr_rest {C' : Rws} {w4 : World} {F4 : List Nat} (l64 : C'.length ≤ 64) (h4 : Sub w4 (some (C'.length : Int)) 0 0 (ptv g) F4 C') (hO : Only (fun i => i ∈ F) w w4) (hF : ∀ i ∈ F4, i ∈ F ∨ w.heap.size ≤ i) {ρ : Env} (hg : ρ.good) (hf : ρ.f = rtF) {S : Nat → Prop} {w0 : World} {β0 β : Bn} {n0 : Nat} {ac : Act} {s : Sy.St}
    (hm : (matchS 4 (drX Try.prog Try.f54) (drEm s)).map noU = some []) (M : Md ρ S w0 β0 n0 s β ac w4) (hβ : β 0 = g) (hc0 : drC C a n = 0) (hR : drR C a n = C') : (Sy.sub [1, 1, 1] (drRe Try.f54)).wp Try.prog (bodyPost Try.prog Try.f54 (RetP (DrPost w g F C a n))) ac w4 := by
  have M1 : Md ρ No w4 β 4 (drEm s) β ac w4 := ⟨M.act, fun x hx => (by cases hx), fun x hx => (by cases hx), fun x hx => (by cases hx), cxP trivial trivial, Only.refl _ _, fun _ _ => rfl⟩
  obtain ⟨x1, x2, x3⟩ := dr_xx
  obtain ⟨u, β1, M2⟩ := Sy.Md.enter M1 hm (fun u => by rw [x3]; exact cxP trivial trivial)
  have e0 : β1 0 = g := (M2.old 0 (by decide)).trans hβ
  have hρ : ∀ u, ({ ρ.sub β [] with u := u } : Env).good ∧ ({ ρ.sub β [] with u := u } : Env).f = rtF := fun u => ⟨hg, hf⟩
  obtain ⟨ρ1, hρ1⟩ : ∃ ρ1 : Env, ({ ρ.sub β [] with u := u } : Env) = ρ1 := ⟨_, rfl⟩
  have hh := hρ u
  rw [hρ1] at M2 hh
  let ρ2 : Env := { ρ1 with o := fun _ => subT (some (C'.length : Int)) 0 0, c := fun _ => C' }
  obtain ⟨β2, hβ2⟩ : ∃ β2, upd β1 1 (bitsOf F4) = β2 := ⟨_, rfl⟩
  have b0 : β2 0 = g := by rw [← hβ2, upd_old (by decide)]; exact e0
  have b1 : β2 1 = bitsOf F4 := by rw [← hβ2, upd_new]
  have M3 : Md ρ2 (fun i => i ∈ F4) w4 β2 4 (drY Try.prog Try.f54) β2 ac w4 := by
    refine Sy.Md.anew ?_ ⟨?_, trivial⟩ ⟨trivial, trivial⟩ ⟨fun _ _ i hi => ?_, trivial⟩ (by show (drX Try.prog Try.f54).cx.ok ρ2; rw [x3]; exact cxP trivial trivial)
    · rw [M2.act]
      show (⟨((drX Try.prog Try.f54).tm.map (SV.den ρ1 β1)).toArray, []⟩ : Act) = ⟨((drX Try.prog Try.f54).tm.map (SV.den ρ2 β2)).toArray, []⟩
      congr 2
      apply List.map_congr_left
      intro v hv
      exact (plain_den (ρ := ρ1) (ρ' := ρ2) (β := β1) (β' := β2) (n := 1) rfl (fun l hl => by rw [← hβ2, upd_old hl]) (List.all_eq_true.1 x1 v hv)).symm
    · show (subT (some (C'.length : Int)) 0 0).P w4 (β2 0) (fun i => (β2 1).testBit i = true) C'
      rw [b0, b1, bits_P]
      exact ⟨F4, h4, fun i => Iff.rfl⟩
    · rcases hi with hi | ⟨_, hi⟩
      · change i = β2 0 at hi
        rw [hi, b0]; exact h4.root_in
      · change (β2 1).testBit i = true at hi
        rw [b1] at hi
        exact (bitsOf_test i F4).1 hi
  refine tail_fin (B := ⟨ρ2, fun i => i ∈ F4, w4, β2, 4⟩) (sp := [prSp]) hh.1 (fun q hq => ?_) dr_end ⟨?_, trivial⟩ M3
  · rw [List.mem_singleton.1 hq]
    exact prSp_ok hh.2 fun j _ => ⟨some (C'.length : Int), 0, 0, rfl, fun h => prune_calls 33 (by omega) (fun m q => by injection q with q; omega) h⟩
  · intro _ β4 w5 hH
    refine ⟨by rw [hc0]; rfl, ?_⟩
    have hT : (subT (some (C'.length : Int)) 0 0).P w5 (β4 0) (bitF β4 [.ptr 100 0]) C' := hH.hp _ (List.mem_cons_self ..)
    rw [(hH.old 0 (show 0 < 4 by decide)).trans b0] at hT
    obtain ⟨F5, h5, hF5⟩ := hT
    have hin : ∀ i ∈ F5, i ∈ F4 ∨ w4.heap.size ≤ i := fun i hi => hH.may _ (List.mem_cons_self ..) rfl (.inl rfl) i (.inr ⟨rfl, (hF5 i).2 hi⟩)
    rw [hR]
    refine ⟨F5, h5, Sy.Only.after hO hH.only hF, fun i hi => ?_⟩
    rcases hin i hi with q | q
    · exact hF i q
    · exact .inr (Nat.le_trans hO.size q)
theorem bel_trans {w w1 w2 : World} (hbl : Below w.heap.size w w1) (hb2 : Below w1.heap.size w1 w2) : Below w.heap.size w w2 := ⟨hb2.os.trans hbl.os, hb2.tape.trans hbl.tape, hb2.output.trans hbl.output, Nat.le_trans hbl.size hb2.size, fun i hi => (hb2.block i (Nat.lt_of_lt_of_le hi hbl.size)).trans (hbl.block i hi)⟩
/-- A place whose own route goes, in the document's list. -/
theorem Nd.drop {w : World} {o : Option Int} {k : Nat} {b : Nat} {F : List Nat} {c : Rws} {p1 p2 : Value} {F1 F2 : List Nat} {c1 c2 : Rws} {v : Int} (h : Nd w o k a b F c p1 p2 F1 F2 c1 c2 true v) {pre post : Rws} (lo : ∀ r ∈ pre, key r < a * 64 + k) (hi : ∀ r ∈ post, (a + wid k) * 64 ≤ key r) (a0 : 0 ≤ a) (al : wid k ∣ a) (a1 : a + wid k ≤ 4294967296) (hC : C = pre ++ (c ++ post)) (hc : chkN a k = 0) :
    drC C a k = 0 ∧ drR C a k = pre ++ ((c1 ++ c2) ++ post) ∧ (drR C a k).length + 1 = C.length := by
  obtain ⟨hs, hmid, hpost⟩ := h.any lo hi a0 al a1
  rw [← hC] at hs
  have h0 : drC C a k = 0 := by
    unfold drC
    rw [if_neg (by omega), hs]
    rfl
  have hx : isP a k (mkR a k v) = true := by
    obtain ⟨_, e0, e1, _⟩ := InP.own h.hk a0 al a1 h.v0 h.v1
    exact decide_eq_true ⟨e0, e1⟩
  have h1 : drR C a k = pre ++ ((c1 ++ c2) ++ post) := by
    unfold drR
    rw [if_pos h0, hC, h.hc]
    exact del_mid hx lo hmid hpost
  refine ⟨h0, h1, ?_⟩
  rw [h1, hC, h.hc]
  simp only [List.length_append, ownR, if_true, List.length_cons, List.length_nil]
  omega
theorem drC_7 (hc : chkN a n = 0) (h : C.any (isP a n) = false) : drC C a n = 7 := by
  unfold drC
  rw [if_neg (by omega), h]
  simp
theorem dr_no (h : Sub w (some (C.length : Int)) 0 0 (ptv g) F C) (x : Int) (hx : drC C a n = x) (h0 : x ≠ 0) {w2 : World} (hb : Below w.heap.size w w2) : DrPost w g F C a n (.int .i64 x) w2 := by
  refine ⟨by rw [hx], ?_⟩
  unfold drR
  rw [if_neg (by rw [hx]; exact h0)]
  exact tab_same h hb
set_option maxRecDepth 100000 in
set_option maxHeartbeats 1000000 in
/-- Drop. -/
theorem drop_calls (h : Sub w (some (C.length : Int)) 0 0 (ptv g) F C) (l64 : C.length ≤ 64) (a0 : 0 ≤ a) (a1 : a ≤ 4294967295) (n0 : -9223372036854775808 ≤ n) (n1 : n ≤ 9223372036854775807) : Calls Try.prog 54 #[ptv g, pfV a n] w (RetP (DrPost w g F C a n)) := by
  obtain ⟨z, i50, hv, hz⟩ := fn_told (n := n) h a0 a1
  have hgF := h.root_in
  have hgd : (adE0' w g F a n 0 i50).good := fun i => rfl
  have hM0 : Md (adE0' w g F a n 0 i50) No w (gF g F) 4 opS (gF g F) ⟨#[], []⟩ w := by
    refine Sy.Md.init ⟨?_, trivial⟩ ⟨trivial, trivial⟩ ⟨fun q => (by cases q), trivial⟩ (cxP ⟨⟨a0, a1⟩, ⟨n0, n1⟩, ⟨show (-9223372036854775808 : Int) ≤ 0 by decide, show (0 : Int) ≤ 9223372036854775807 by decide⟩, trivial⟩ trivial) rfl
    exact ⟨rfl, fun i => bitsOf_test i _, hgF, fun i hi => ⟨h.lt i hi, rfl⟩⟩
  refine calls_pre (B := ⟨adE0' w g F a n 0 i50, No, w, gF g F, 4⟩) (sp := [ckSp, fiSp z]) (p := opP) (xs := pA) (s := opS) (r := drR0 Try.prog Try.f54 z) hgd (fun q hq => by
    simp only [List.mem_cons, List.not_mem_nil, or_false] at hq
    rcases hq with rfl | rfl
    · exact ckSp_ok rfl
    · exact fiSp_ok rfl rfl h (by omega) (by omega) a0 a1 fun q => hv q) rfl Try.func54 rfl rfl (dr_run0 z) hM0 ⟨?_, ?_, trivial⟩ rfl
  · intro hpc β ac w1 M
    have q := hpc.1
    unfold adN0 at q
    rw [t_not, t_eq] at q
    change ¬ chkN a n = 0 at q
    refine ret_post (B := ⟨adE0' w g F a n 0 i50, No, w, gF g F, 4⟩) M (retsB_ok (dr_ret0 z) rfl) ?_
    show DrPost w g F C a n (Value.int .i64 (chkN a n)) w1
    exact dr_no h _ (by unfold drC; rw [if_pos q]) q (below_no M.only)
  · intro hpc β ac w1 M
    have q := hpc.1
    unfold adE0 at q
    rw [t_eq] at q
    change chkN a n = 0 at q
    have hc : chkN a n = 0 := q
    obtain ⟨k0, k1, _⟩ := chk_0 hc
    have M : Md (adE0' w g F a n 0 i50) No w (gF g F) 4 (lfAt (drR0 Try.prog Try.f54 z) 1) β ac w1 := M
    have hbl := below_no M.only
    have M1 : Md (adE0' w g F a n 0 i50) No w1 (gF g F) 4 (drS0 Try.prog Try.f54 z) β ac w1 := ⟨M.act, fun x hx => (by cases hx), fun x hx => (by cases hx), fun x hx => (by cases hx), cxP trivial trivial, Only.refl _ _, M.old⟩
    have mh := dr_mhp z
    obtain ⟨u, β1, M2⟩ := Sy.Md.enter M1 (dr_m0 z) (fun u => cxP trivial trivial)
    have hρ : ∀ u, ({ (adE0' w g F a n 0 i50).sub β [] with u := u } : Env).good ∧ ({ (adE0' w g F a n 0 i50).sub β [] with u := u } : Env).f = rtF ∧ ({ (adE0' w g F a n 0 i50).sub β [] with u := u } : Env).i 50 = (i50 : Int) := fun u => ⟨hgd, rfl, rfl⟩
    obtain ⟨hg1, hf1, t50⟩ := hρ u
    generalize ({ (adE0' w g F a n 0 i50).sub β [] with u := u } : Env) = ρ at M2 hg1 hf1 t50
    show (Sy.sub opP (bodyOf Try.f54)).wp Try.prog (ctx Try.prog [1, 1, 1] (bodyOf Try.f54) _) ac w1
    rw [ctx3]
    show (drRe Try.f54).wp Try.prog (bodyPost Try.prog Try.f54 (RetP (DrPost w g F C a n))) ac w1
    have hk : ∀ i ∈ F, w1.heap[i]? = w.heap[i]? := fun i hi => hbl.block i (h.lt i hi)
    have h1 := h.keep hk
    have hglt := h1.lt g hgF
    obtain ⟨r1, r2, G1, G2, d1, d2, s0, v0', R⟩ := h1.opn rfl
    have e0 : β1 0 = g := M2.old 0 (by decide)
    rcases hz hc with ⟨rfl, hany⟩ | ⟨rfl, pre, post, o, F', c', P, hC⟩
    · -- there is no such place
      refine part_pre (B := ⟨ρ, No, w1, β1, 62⟩) (sp := []) (lim := 10) (fuel := 400) hg1 (fun q hq => by cases hq) rfl (p := [1, 1, 1]) (r := drRB Try.prog Try.f54 (drM Try.prog Try.f54 true)) rfl dr_runB0 ⟨?_, trivial⟩ ⟨M2.act, M2.hp, M2.ne, M2.may, M2.cx, M2.only, fun _ _ => rfl⟩
      intro hpc β3 a3 w3 M5
      exact ret_post (B := ⟨ρ, No, w1, β1, 62⟩) M5 (retsB_ok dr_retB0 rfl) (dr_no h 7 (drC_7 hc hany) (by decide) (bel_trans hbl (below_no M5.only)))
    · -- there is
      have P1 := P.moved (Nat.le_refl _) (Only.of_below hbl _) (P.sub.keep fun i hi => hbl.block i (P.sub.lt i hi)) (fun i hi => .inl hi) (fun _ => h.lt g hgF)
      obtain ⟨p1, p2, F1, F2, c1, c2, s, v, N⟩ := P1.sub.opn rfl
      obtain ⟨hs, _, _⟩ := N.any P1.lo P1.hi P1.a0 P1.al P1.a1
      have hnn : (n.toNat : Int) = n := by omega
      rw [← hC, hnn] at hs
      have dr7 : s = false → drC C a n = 7 := fun e => drC_7 hc (by rw [hs, e])
      have hdrop : s = true → drC C a n = 0 ∧ drR C a n = pre ++ ((c1 ++ c2) ++ post) ∧ (drR C a n).length + 1 = C.length := fun e => by
        subst e
        have := Nd.drop N P1.lo P1.hi P1.a0 P1.al P1.a1 hC (by rw [hnn]; exact hc)
        rw [hnn] at this
        exact this
      have q := dr_m4
      simp only [Bool.and_eq_true] at q
      have M2a := Sy.Md.letter M2 4 i50 0 (by decide) q.1 q.2
      obtain ⟨β2, hβ2⟩ : ∃ β2, upd (upd β1 4 i50) (4 + 1) 0 = β2 := ⟨_, rfl⟩
      rw [hβ2] at M2a
      have b4 : β2 4 = i50 := by rw [← hβ2, upd_old (by omega), upd_new]
      have bl : ∀ l, l < 4 ∨ 6 ≤ l → β2 l = β1 l := fun l hl => by rw [← hβ2, upd_old (by omega), upd_old (by omega)]
      have e02 : β2 0 = g := (bl 0 (.inl (by decide))).trans e0
      have hbF : i50 ∈ F' := by rw [N.hF]; exact List.mem_cons_self ..
      have hbF0 : i50 ∈ F := (P.inF i50 hbF).elim (fun q => q) fun q => absurd (P.sub.lt i50 hbF) (by omega)
      have hgo : ∀ {w4 : World}, Only (fun i => i = i50 ∨ i = g) w1 w4 → Only (fun i => i ∈ F) w w4 := fun ho => Sy.Only.after (Only.of_below hbl _) ho fun i hi => by
        rcases hi with rfl | rfl
        · exact .inl hbF0
        · exact .inl hgF
      have M2c : Md ρ (fun i => i = i50 ∨ i = g) w1 β2 4 (drM Try.prog Try.f54 false) β2 ac w1 := ⟨M2a.act, M2a.hp, M2a.ne, fun x hx => (by rw [mh] at hx; cases hx), M2a.cx, Only.refl _ _, fun _ _ => rfl⟩
      rcases P1.root with ⟨ho, hbg, hk0, ha0, hpre, hpos⟩ | ⟨ho, hgn⟩
      · -- the root
        subst ho hpre hpos hbg
        have M2b : Md ρ (fun i => i = i50 ∨ i = i50) w1 β2 4 (drM1 Try.prog Try.f54 0) β2 ac w1 := Md.retell M2c 6 (.one (.c (.ptr 0 0))) (by
          rw [dr_m6]
          show Value.pointer (some ⟨β2 0, 0, none⟩) = .pointer (some ⟨(ρ.i 50).toNat, 0, none⟩)
          rw [t50, e02, Int.toNat_natCast])
        have q := dr_m10
        simp only [Bool.and_eq_true] at q
        obtain ⟨lx, ⟨g6, g7⟩, g8, g9⟩ := q
        obtain ⟨β3, M3, q6, q8, ql⟩ := nd_inG 0 12 36 M2b N e02 (fun m' e => by injection e with e; omega) (by decide) (.inl (by decide)) lx (by
          show ((St.free (drM1 Try.prog Try.f54 0) 12 && St.free (drM1 Try.prog Try.f54 0) 13) && (St.free (drM1 Try.prog Try.f54 0) 14 && St.free (drM1 Try.prog Try.f54 0) 15)) = true
          rw [g6, g7, g8, g9]; rfl) true (fun x hx => by
          have hx : x ∈ (drM Try.prog Try.f54 false).hp := hx
          rw [mh] at hx; cases hx) (fun _ => .inl (.inl rfl))
        have En := NdE.hi ρ 36 s v (some (C.length : Int))
        have hg2 : (ρ.hi 36 (ndL s v (some (C.length : Int)))).good ∧ (ρ.hi 36 (ndL s v (some (C.length : Int)))).f = rtF := ⟨hg1, hf1⟩
        generalize ρ.hi 36 (ndL s v (some (C.length : Int))) = ρ1 at M3 En hg2
        have M4 : Md ρ1 (fun i => i = i50 ∨ i = i50) w1 β3 62 (drB2 Try.prog Try.f54 (kidZ p1) (kidZ p2)) β3 ac w1 := ⟨M3.act, M3.hp, M3.ne, M3.may, M3.cx, M3.only, fun _ _ => rfl⟩
        have same : ∀ {w2 : World} {β4 : Bn} {a3 : Act}, Md ρ1 (fun i => i = i50 ∨ i = i50) w1 β3 62 (lfAt (drRB Try.prog Try.f54 (drB2 Try.prog Try.f54 (kidZ p1) (kidZ p2))) 0) β4 a3 w2 → Below w1.heap.size w1 w2 := fun {w2 β4 a3} M5 => by
          have hold : ∀ l, l < 62 → β4 l = β3 l := fun l hl => M5.old l hl
          have hB : Blk w2 (β4 0) 165 (denL ρ1 β4 (kc 12 (kidZ p1) :: kc 14 (kidZ p2) :: Sy.C.bool (.bv 36) :: Sy.C.int .i64 (.iv 37) :: [Sy.C.int .i64 (.iv 38)])) := M5.hp _ (find_mem (dr_bk2' _ _)).1
          have hden := nd_den (h := 36) En β4 (kc 12 (kidZ p1)) (kc 14 (kidZ p2))
          rw [kc_den N.k1 ρ1 β4 12 ((hold 12 (by decide)).trans q6), kc_den N.k2 ρ1 β4 14 ((hold 14 (by decide)).trans q8)] at hden
          rw [show denL ρ1 β4 (kc 12 (kidZ p1) :: kc 14 (kidZ p2) :: Sy.C.bool (.bv 36) :: Sy.C.int .i64 (.iv 37) :: [Sy.C.int .i64 (.iv 38)]) = _ from hden, (hold 0 (by decide)).trans ((ql 0 (.inl (by decide))).trans e02)] at hB
          exact same_on M5.only fun i hi => by
            have : i = i50 := hi.elim id id
            subst this
            exact Eq.trans hB N.blk.symm
        refine part_pre (B := ⟨ρ1, fun i => i = i50 ∨ i = i50, w1, β3, 62⟩) (sp := []) (lim := 10) (fuel := 400) hg2.1 (fun q hq => by cases hq) rfl (p := [1, 1, 1]) (r := drRB Try.prog Try.f54 (drB2 Try.prog Try.f54 (kidZ p1) (kidZ p2))) rfl (dr_runB2 _ _) ⟨?_, ?_, trivial⟩ M4
        · intro hpc β4 a3 w3 M5
          have hs0 : s = false := by
            have q := hpc.1
            rw [t_not] at q
            have : ¬ ρ1.b 36 = true := q
            rw [show ρ1.b 36 = s from En.st] at this
            simpa using this
          exact ret_post (B := ⟨ρ1, fun i => i = i50 ∨ i = i50, w1, β3, 62⟩) M5 (retsB_ok (dr_retB2 _ _) rfl) (dr_no h 7 (dr7 hs0) (by decide) (bel_trans hbl (same M5)))
        · intro hpc β4 a3 w3 M5
          have hs0 : s = true := by
            have q : ρ1.b 36 = true := hpc.1
            rw [show ρ1.b 36 = s from En.st] at q
            exact q
          subst hs0
          have M5 : Md ρ1 (fun i => i = i50 ∨ i = i50) w1 β3 62 (lfAt (drRB Try.prog Try.f54 (drB2 Try.prog Try.f54 (kidZ p1) (kidZ p2))) 1) β4 a3 w3 := M5
          have hold : ∀ l, l < 62 → β4 l = β3 l := fun l hl => M5.old l hl
          have hB : Blk w3 (β4 0) 165 (denL ρ1 β4 [kc 12 (kidZ p1), kc 14 (kidZ p2), .bool (.bl false), .int .i64 (.iv 37), .int .i64 (.add (.iv 38) (.il (-1)))]) := M5.hp _ (find_mem (dr_bk2 _ _)).1
          have b0 : β4 0 = i50 := (hold 0 (by decide)).trans ((ql 0 (.inl (by decide))).trans e02)
          obtain ⟨hd0, hdR, hdl⟩ := hdrop rfl
          have eB : denL ρ1 β4 [kc 12 (kidZ p1), kc 14 (kidZ p2), .bool (.bl false), .int .i64 (.iv 37), .int .i64 (.add (.iv 38) (.il (-1)))] = ndC p1 p2 false v (some ((drR C a n).length : Int)) := by
            show [(kc 12 (kidZ p1)).den ρ1 β4, (kc 14 (kidZ p2)).den ρ1 β4, Value.bool false, .int .i64 (ρ1.i 37), .int .i64 (ρ1.i 38 + (-1))] = _
            rw [kc_den N.k1 ρ1 β4 12 ((hold 12 (by decide)).trans q6), kc_den N.k2 ρ1 β4 14 ((hold 14 (by decide)).trans q8), show ρ1.i 37 = v from En.v, show ρ1.i 38 = (C.length : Int) from En.m, show (C.length : Int) + (-1) = ((drR C a n).length : Int) by omega]
            rfl
          rw [eB, b0] at hB
          have hd := N.hd
          have hd' := hd
          rw [List.nodup_cons] at hd'
          have K := Sub.node (o := some ((drR C a n).length : Int)) N.hk hB (N.k1.keep (w' := w3) fun i hi => M5.only.block i (N.k1.lt i hi) fun q => hd'.1 (List.mem_append_left _ ((q.elim id id) ▸ hi))) (N.k2.keep (w' := w3) fun i hi => M5.only.block i (N.k2.lt i hi) fun q => hd'.1 (List.mem_append_right _ ((q.elim id id) ▸ hi))) hd N.v0 N.v1
          have K2 : Sub w3 (some ((drR C a n).length : Int)) 0 0 (ptv i50) F' (drR C a n) := by
            rw [hdR] at K ⊢
            rw [N.hF]
            have : n.toNat = 0 := hk0
            rw [this, ha0] at K
            simpa [ownR] using K
          exact dr_rest (by omega) K2 (hgo M5.only) (fun i hi => P.inF i hi) hg2.1 hg2.2 (dr_x2 _ _) M5 b0 hd0 rfl
      · -- a node
        subst ho
        have hbg : i50 ≠ g := fun e => hgn (e ▸ hbF)
        have M2b : Md ρ (fun i => i = i50 ∨ i = g) w1 β2 4 (drM1 Try.prog Try.f54 4) β2 ac w1 := Md.retell M2c 6 (.one (.c (.ptr 4 0))) (by
          rw [dr_m6]
          show Value.pointer (some ⟨β2 4, 0, none⟩) = .pointer (some ⟨(ρ.i 50).toNat, 0, none⟩)
          rw [t50, b4, Int.toNat_natCast])
        have q := dr_m14
        simp only [Bool.and_eq_true] at q
        obtain ⟨lx, ⟨g6, g7⟩, g8, g9⟩ := q
        obtain ⟨β3, M3, q6, q8, ql⟩ := nd_inG 4 6 32 M2b N b4 (fun m' e => by cases e) (by decide) (.inl (by decide)) lx (by
          show ((St.free (drM1 Try.prog Try.f54 4) 6 && St.free (drM1 Try.prog Try.f54 4) 7) && (St.free (drM1 Try.prog Try.f54 4) 8 && St.free (drM1 Try.prog Try.f54 4) 9)) = true
          rw [g6, g7, g8, g9]; rfl) true (fun x hx => by
          have hx : x ∈ (drM Try.prog Try.f54 false).hp := hx
          rw [mh] at hx; cases hx) (fun _ => .inl (.inl rfl))
        have Ena := NdE.hi ρ 32 s v none
        have hg2 : (ρ.hi 32 (ndL s v none)).good ∧ (ρ.hi 32 (ndL s v none)).f = rtF := ⟨hg1, hf1⟩
        generalize ρ.hi 32 (ndL s v none) = ρ1 at M3 Ena hg2
        have e03 : β3 0 = g := (ql 0 (.inl (by decide))).trans e02
        have b43 : β3 4 = i50 := (ql 4 (.inl (by decide))).trans b4
        have q := dr_m14' (kidZ p1) (kidZ p2)
        simp only [Bool.and_eq_true] at q
        obtain ⟨lx, ⟨g6, g7⟩, g8, g9⟩ := q
        obtain ⟨β5, M3', t6, t8, tl⟩ := nd_inG 0 12 36 M3 R e03 (fun m' e => by injection e with e; omega) (by decide) (.inl (by decide)) lx (by
          show ((St.free (ndSG (drM1 Try.prog Try.f54 4) 4 6 32 false (kidZ p1) (kidZ p2) true) 12 && St.free (ndSG (drM1 Try.prog Try.f54 4) 4 6 32 false (kidZ p1) (kidZ p2) true) 13) && (St.free (ndSG (drM1 Try.prog Try.f54 4) 4 6 32 false (kidZ p1) (kidZ p2) true) 14 && St.free (ndSG (drM1 Try.prog Try.f54 4) 4 6 32 false (kidZ p1) (kidZ p2) true) 15)) = true
          rw [g6, g7, g8, g9]; rfl) true (fun x hx hr hfx => by
            have hx : x ∈ ndG 4 6 32 false (kidZ p1) (kidZ p2) true :: (drM Try.prog Try.f54 false).hp := hx
            rw [mh] at hx
            rw [List.mem_singleton.1 hx] at hfx
            exact hbg ((fp_one rfl hfx).trans b43).symm) (fun q => .inl (.inr rfl))
        have En := NdE.hi ρ1 36 s0 v0' (some (C.length : Int))
        have b32 : (ρ1.hi 36 (ndL s0 v0' (some (C.length : Int)))).b 32 = s := Ena.st
        have i33 : (ρ1.hi 36 (ndL s0 v0' (some (C.length : Int)))).i 33 = v := Ena.v
        have hg3 : (ρ1.hi 36 (ndL s0 v0' (some (C.length : Int)))).good ∧ (ρ1.hi 36 (ndL s0 v0' (some (C.length : Int)))).f = rtF := ⟨hg2.1, hg2.2⟩
        generalize ρ1.hi 36 (ndL s0 v0' (some (C.length : Int))) = ρ2 at M3' En hg3 b32 i33
        have M4 : Md ρ2 (fun i => i = i50 ∨ i = g) w1 β5 62 (drB1 Try.prog Try.f54 (kidZ p1) (kidZ p2) (kidZ r1) (kidZ r2)) β5 ac w1 := ⟨M3'.act, M3'.hp, M3'.ne, M3'.may, M3'.cx, M3'.only, fun _ _ => rfl⟩
        have k0 : β5 0 = g := (tl 0 (.inl (by decide))).trans e03
        have k4 : β5 4 = i50 := (tl 4 (.inl (by decide))).trans b43
        have k6 : β5 6 = kidA p1 := (tl 6 (.inl (by decide))).trans q6
        have k8 : β5 8 = kidA p2 := (tl 8 (.inl (by decide))).trans q8
        have same : ∀ {w2 : World} {β4 : Bn} {a3 : Act}, Md ρ2 (fun i => i = i50 ∨ i = g) w1 β5 62 (lfAt (drRB Try.prog Try.f54 (drB1 Try.prog Try.f54 (kidZ p1) (kidZ p2) (kidZ r1) (kidZ r2))) 0) β4 a3 w2 → Below w1.heap.size w1 w2 := fun {w2 β4 a3} M5 => by
          have hold : ∀ l, l < 62 → β4 l = β5 l := fun l hl => M5.old l hl
          obtain ⟨f0, f4⟩ := Prod.mk.inj (dr_bk1' (kidZ p1) (kidZ p2) (kidZ r1) (kidZ r2))
          have hB : Blk w2 (β4 0) 165 (denL ρ2 β4 (kc 12 (kidZ r1) :: kc 14 (kidZ r2) :: Sy.C.bool (.bv 36) :: Sy.C.int .i64 (.iv 37) :: [Sy.C.int .i64 (.iv 38)])) := M5.hp _ (find_mem f0).1
          have hden := nd_den (h := 36) En β4 (kc 12 (kidZ r1)) (kc 14 (kidZ r2))
          rw [kc_den R.k1 ρ2 β4 12 ((hold 12 (by decide)).trans t6), kc_den R.k2 ρ2 β4 14 ((hold 14 (by decide)).trans t8)] at hden
          rw [show denL ρ2 β4 (kc 12 (kidZ r1) :: kc 14 (kidZ r2) :: Sy.C.bool (.bv 36) :: Sy.C.int .i64 (.iv 37) :: [Sy.C.int .i64 (.iv 38)]) = _ from hden, (hold 0 (by decide)).trans k0] at hB
          have hB4 : Blk w2 (β4 4) 163 (denL ρ2 β4 [kc 6 (kidZ p1), kc 8 (kidZ p2), .bool (.bv 32), .int .i64 (.iv 33)]) := M5.hp _ (find_mem f4).1
          have e4 : denL ρ2 β4 [kc 6 (kidZ p1), kc 8 (kidZ p2), .bool (.bv 32), .int .i64 (.iv 33)] = ndC p1 p2 s v none := by
            show [(kc 6 (kidZ p1)).den ρ2 β4, (kc 8 (kidZ p2)).den ρ2 β4, Value.bool (ρ2.b 32), .int .i64 (ρ2.i 33)] = _
            rw [kc_den N.k1 ρ2 β4 6 ((hold 6 (by decide)).trans k6), kc_den N.k2 ρ2 β4 8 ((hold 8 (by decide)).trans k8), b32, i33]
            rfl
          rw [e4, (hold 4 (by decide)).trans k4] at hB4
          exact same_on M5.only fun i hi => by
            rcases hi with rfl | rfl
            · exact Eq.trans hB4 N.blk.symm
            · exact Eq.trans hB R.blk.symm
        refine part_pre (B := ⟨ρ2, fun i => i = i50 ∨ i = g, w1, β5, 62⟩) (sp := []) (lim := 10) (fuel := 400) hg3.1 (fun q hq => by cases hq) rfl (p := [1, 1, 1]) (r := drRB Try.prog Try.f54 (drB1 Try.prog Try.f54 (kidZ p1) (kidZ p2) (kidZ r1) (kidZ r2))) rfl (dr_runB1 _ _ _ _) ⟨?_, ?_, trivial⟩ M4
        · intro hpc β4 a3 w3 M5
          have hs0 : s = false := by
            have q := hpc.1
            rw [t_not] at q
            have : ¬ ρ2.b 32 = true := q
            rw [b32] at this
            simpa using this
          exact ret_post (B := ⟨ρ2, fun i => i = i50 ∨ i = g, w1, β5, 62⟩) M5 (retsB_ok (dr_retB1 _ _ _ _) rfl) (dr_no h 7 (dr7 hs0) (by decide) (bel_trans hbl (same M5)))
        · intro hpc β4 a3 w3 M5
          have hs0 : s = true := by
            have q : ρ2.b 32 = true := hpc.1
            rw [b32] at q
            exact q
          subst hs0
          have M5 : Md ρ2 (fun i => i = i50 ∨ i = g) w1 β5 62 (lfAt (drRB Try.prog Try.f54 (drB1 Try.prog Try.f54 (kidZ p1) (kidZ p2) (kidZ r1) (kidZ r2))) 1) β4 a3 w3 := M5
          have hold : ∀ l, l < 62 → β4 l = β5 l := fun l hl => M5.old l hl
          obtain ⟨f0, f4⟩ := Prod.mk.inj (dr_bk1 (kidZ p1) (kidZ p2) (kidZ r1) (kidZ r2))
          obtain ⟨hd0, hdR, hdl⟩ := hdrop rfl
          have hR : Blk w3 (β4 0) 165 (denL ρ2 β4 [kc 12 (kidZ r1), kc 14 (kidZ r2), .bool (.bv 36), .int .i64 (.iv 37), .int .i64 (.add (.iv 38) (.il (-1)))]) := M5.hp _ (find_mem f0).1
          have hB : Blk w3 (β4 4) 163 (denL ρ2 β4 [kc 6 (kidZ p1), kc 8 (kidZ p2), .bool (.bl false), .int .i64 (.iv 33)]) := M5.hp _ (find_mem f4).1
          have eR : denL ρ2 β4 [kc 12 (kidZ r1), kc 14 (kidZ r2), .bool (.bv 36), .int .i64 (.iv 37), .int .i64 (.add (.iv 38) (.il (-1)))] = ndC r1 r2 s0 v0' (some ((drR C a n).length : Int)) := by
            show [(kc 12 (kidZ r1)).den ρ2 β4, (kc 14 (kidZ r2)).den ρ2 β4, Value.bool (ρ2.b 36), .int .i64 (ρ2.i 37), .int .i64 (ρ2.i 38 + (-1))] = _
            rw [kc_den R.k1 ρ2 β4 12 ((hold 12 (by decide)).trans t6), kc_den R.k2 ρ2 β4 14 ((hold 14 (by decide)).trans t8), show ρ2.b 36 = s0 from En.st, show ρ2.i 37 = v0' from En.v, show ρ2.i 38 = (C.length : Int) from En.m, show (C.length : Int) + (-1) = ((drR C a n).length : Int) by omega]
            rfl
          have eB : denL ρ2 β4 [kc 6 (kidZ p1), kc 8 (kidZ p2), .bool (.bl false), .int .i64 (.iv 33)] = ndC p1 p2 false v none := by
            show [(kc 6 (kidZ p1)).den ρ2 β4, (kc 8 (kidZ p2)).den ρ2 β4, Value.bool false, .int .i64 (ρ2.i 33)] = _
            rw [kc_den N.k1 ρ2 β4 6 ((hold 6 (by decide)).trans k6), kc_den N.k2 ρ2 β4 8 ((hold 8 (by decide)).trans k8), i33]
            rfl
          have b0 : β4 0 = g := (hold 0 (by decide)).trans k0
          rw [eR, b0] at hR
          rw [eB, (hold 4 (by decide)).trans k4] at hB
          have hd := N.hd
          have hd' := hd
          rw [List.nodup_cons] at hd'
          have hgk : ∀ i, i ∈ F' → i ≠ g := fun i hi e => hgn (e ▸ hi)
          have in1 : ∀ i ∈ F1, i ∈ F' := fun i hi => by rw [N.hF]; exact List.mem_cons_of_mem _ (List.mem_append_left _ hi)
          have in2 : ∀ i ∈ F2, i ∈ F' := fun i hi => by rw [N.hF]; exact List.mem_cons_of_mem _ (List.mem_append_right _ hi)
          have K := Sub.node (o := none) N.hk hB (N.k1.keep (w' := w3) fun i hi => M5.only.block i (N.k1.lt i hi) fun q => q.elim (fun q => hd'.1 (List.mem_append_left _ (q ▸ hi))) (hgk i (in1 i hi))) (N.k2.keep (w' := w3) fun i hi => M5.only.block i (N.k2.lt i hi) fun q => q.elim (fun q => hd'.1 (List.mem_append_right _ (q ▸ hi))) (hgk i (in2 i hi))) hd N.v0 N.v1
          obtain ⟨F4, j1, j2⟩ := P1.put2 (m' := ((drR C a n).length : Int)) (M5.only.mono fun i _ hi => hi.imp (fun e => (show i ∈ F' by rw [show i = i50 from e]; exact hbF)) fun e => e) K (fun i hi => .inl (by rw [N.hF]; exact hi)) R.blk hR
          have K2 : Sub w3 (some ((drR C a n).length : Int)) 0 0 (ptv g) F4 (drR C a n) := by
            rw [hdR] at j1 ⊢
            simpa [ownR] using j1
          exact dr_rest (by omega) K2 (hgo M5.only) (fun i hi => j2 i hi) hg3.1 hg3.2 (dr_x1 _ _ _ _) M5 b0 hd0 rfl
end
end Go.Proofs.Ytnjpoidpfcfbeaa
