/- The reference's Put: its walk. -/
import Derived.Test.YtnjpoidpfcfbeaaIq4
namespace Go.Proofs.Ytnjpoidpfcfbeaa
open Go.RowKit Sy
set_option linter.unusedVariables false
set_option linter.unusedSimpArgs false

section
variable {L : List (List Value)} {read fin at_ : Int} {body : ByteArray} {ff : Bool} {w : World} {g gm : Nat}
theorem any_den {ρ : Env} {n : Nat} {v : Value} {r : Nat → Value} {β : Bn} : (SV.any n).den { ρ with u := fun k => if k = n then v else r k } β = v := if_pos rfl
theorem pu_sub101 : Sy.sub [1, 0, 1] (puH Try.f12) = .block 2 (Sy.sub [1, 0, 1, 2] (puH Try.f12)) := by kernel_rfl
/-- All keys that were seen lie ahead of it. -/
structure WI (L : List (List Value)) (read fin at_ : Int) (body : ByteArray) (ff : Bool) (es : Array MapEntry) (seen : Array Nat) (ρ : Env) : Prop where
  u : UI L read fin at_ body ff ρ
  b2 : ρ.b 2 = true ↔ ∀ e ∈ es.toList, e.born ∈ seen.toList → ∀ k, e.key = .int .i64 k → k < at_ + body.size
theorem key_of_ent {es : List MapEntry} {M : List (List Value)} (hg : GoodM M) (he : es.map (fun e => (e.key, e.val)) = M.map (entOf false 1)) {e : MapEntry} (h : e ∈ es) : ∃ k : Int, e.key = .int .i64 k ∧ (Lit.int .i64 k).wf = true := by
  have : (e.key, e.val) ∈ M.map (entOf false 1) := he ▸ List.mem_map.2 ⟨e, h, rfl⟩
  obtain ⟨r, hr, e'⟩ := List.mem_map.1 this
  obtain ⟨k, b, rfl, hk, _⟩ := row_form (hg r hr)
  exact ⟨k, (congrArg Prod.fst e').symm, hk⟩
theorem keys_all {es : List MapEntry} {M : List (List Value)} (hg : GoodM M) (he : es.map (fun e => (e.key, e.val)) = M.map (entOf false 1)) (p : Int) : (∀ e ∈ es, ∀ k, e.key = .int .i64 k → k < p) ↔ ∀ r ∈ M, keyI r < p := by
  constructor
  · intro h r hr
    have : entOf false 1 r ∈ es.map (fun e => (e.key, e.val)) := he ▸ List.mem_map.2 ⟨r, hr, rfl⟩
    obtain ⟨e, hm, e'⟩ := List.mem_map.1 this
    obtain ⟨k, b, rfl, _, _⟩ := row_form (hg r hr)
    exact h e hm k (congrArg Prod.fst e')
  · intro h e hm k hk
    have : (e.key, e.val) ∈ M.map (entOf false 1) := he ▸ List.mem_map.2 ⟨e, hm, rfl⟩
    obtain ⟨r, hr, e'⟩ := List.mem_map.1 this
    have hr1 := h r hr
    obtain ⟨k', b, rfl, _, _⟩ := row_form (hg r hr)
    have : Value.int .i64 k' = e.key := congrArg Prod.fst e'
    rw [hk] at this
    injection this with _ this
    subst this
    exact hr1
/-- Behind the map's loop. -/
theorem pu_after (h : RpIn L read fin at_ body) (hb : rpBar L read fin at_ = false) (ht : rpTest L read fin at_ body ff = true) {ρ : Env} (I : UI L read fin at_ body ff ρ) (hfree : ρ.b 2 = decide (keyMax (rpMap L read fin at_ body) ≤ at_ + body.size)) {β : Bn} {a : Act} {w1 : World} (hM : Md ρ (S2 g gm) w (bn2 g gm) 4 (puW Try.prog Try.f12) β a w1) :
    (Sy.sub [1, 1] (puH Try.f12)).wp Try.prog (ctx Try.prog [1, 1, 1, 1, 1, 0, 1, 1] (bodyOf Try.f12) (bodyPost Try.prog Try.f12 (RetP (RpPost w g gm L read fin at_ body ff)))) a w1 := by
  refine seg_wp (r := pu6 Try.prog Try.f12) rfl pu_run6 (VI L read fin at_ body ff) (fun ρ I => I.cx h) I.g (fun q hq => by cases hq) ?_ (fun ρ I β a w hM => pu_end h hb I hM) hM
  have fin' : ρ.b 2 = true → rpFin L read fin at_ body ff = at_ + body.size := fun q => by
    rw [hfree, decide_eq_true_eq] at q
    unfold rpFin
    rw [hb, if_neg (by decide), if_pos ⟨ht, q⟩]
  have fin2 : ρ.b 2 = false → rpFin L read fin at_ body ff = fin := fun q => by
    rw [hfree, decide_eq_false_iff_not] at q
    unfold rpFin
    rw [hb, if_neg (by decide), if_neg fun c => q c.2]
  refine ⟨?_, ?_, trivial⟩
  · intro hpc β u
    have hq : ρ.b 2 = true := hpc.1
    refine ⟨I.g, I.f, I.i0, I.i5, ?_, I.c1⟩
    show ρ.i 7 = _
    rw [I.i7, fin' hq]
  · intro hpc β u
    have hq : ρ.b 2 = false := by
      have := hpc.1
      rw [t_not] at this
      simpa [t_bv] using this
    refine ⟨I.g, I.f, I.i0, I.i5, ?_, I.c1⟩
    show ρ.i 1 = _
    rw [I.i1, fin2 hq]
set_option maxRecDepth 100000 in
set_option maxHeartbeats 2000000 in
/-- The map's loop. -/
theorem pu_map (hgl : g < w.heap.size) (hgml : gm < w.heap.size) (h : RpIn L read fin at_ body) (hb : rpBar L read fin at_ = false) (ht : rpTest L read fin at_ body ff = true) {ρ : Env} (I : UI L read fin at_ body ff ρ) {β : Bn} {a : Act} {w1 : World} (hM : Md ρ (S2 g gm) w (bn2 g gm) 4 (lfAt (pu3 Try.prog Try.f12) 0) β a w1) :
    (Sy.sub [1, 0, 0] (puH Try.f12)).wp Try.prog (ctx Try.prog [1, 0, 0] (puH Try.f12) (ctx Try.prog [1, 1, 1, 1, 1, 0, 1, 1] (bodyOf Try.f12) (bodyPost Try.prog Try.f12 (RetP (RpPost w g gm L read fin at_ body ff))))) a w1 := by
  obtain ⟨o, hc, g1, p1, d1⟩ := pu_rgA.c
  rw [hc]
  refine wp_region_list ?_
  show wpList _ _ _ (puA4 Try.f12 ++ [o]) a w1
  obtain ⟨s1, e⟩ := Prod.mk.inj pu_s4
  obtain ⟨s2, e⟩ := Prod.mk.inj e
  obtain ⟨s3, s4⟩ := Prod.mk.inj e
  refine opsSt_ok (B := ⟨ρ, S2 g gm, w, bn2 g gm, 4⟩) I.g (fun q hq => by cases hq) pu_run4 (fun β a w1 hM => ?_) hM
  refine range_op hM g1 p1 d1 Try.underlying106 s1 s2 (show 4 ≤ 40 by decide) s3 s4 (by decide) (by decide) fun es clock w2 β1 hold hL hes hit M5 => ?_
  refine wpList_nil ?_
  show (Sy.sub [1, 0, 1] (puH Try.f12)).wp Try.prog (ctx Try.prog [1, 0] (puH Try.f12) (ctx Try.prog [1, 1, 1, 1, 1, 0, 1, 1] (bodyOf Try.f12) (bodyPost Try.prog Try.f12 (RetP (RpPost w g gm L read fin at_ body ff))))) _ w2
  rw [pu_sub101]
  refine wp_block ?_
  rw [← pu_loopW]
  have hU1 : ∀ u, UI L read fin at_ body ff { ρ.sub β1 [.b 2 (.bl true)] with u := u } := fun u => ⟨I.g, I.f, I.i0, I.i1, I.i5, I.i7, I.b1, I.c1⟩
  have hW0 : ∀ u, WI L read fin at_ body ff es #[] { ρ.sub β1 [.b 2 (.bl true)] with u := u } := fun u => ⟨hU1 u, ⟨fun _ e _ hs => by simp at hs, fun _ => rfl⟩⟩
  have hold4 : ∀ l, l < 4 → β1 l = bn2 g gm l := fun l hl => M5.old l hl
  have hgmE : β 2 = gm := hM.old 2 (show 2 < 4 by decide)
  rw [hgmE] at hit
  have hEs : es.toList.map (fun e => (e.key, e.val)) = (rpMap L read fin at_ body).map (entOf false 1) := by
    have : (den ρ (.cv 1)).c = rpMap L read fin at_ body := I.c1
    rw [this] at hes
    exact hes
  have hgood := h.map.1
  have cxW : ∀ ρ, UI L read fin at_ body ff ρ → (puW Try.prog Try.f12).cx.ok ρ := fun ρ I => by rw [pu_cxW]; exact I.cx h hb
  obtain ⟨u, β2, M6⟩ := Sy.Md.enter (Sy.Md.at_ M5 42) pu_match5 fun u => cxW _ (hU1 u)
  obtain ⟨a110, e⟩ := List.cons.inj pu_any
  obtain ⟨a111, e⟩ := List.cons.inj e
  obtain ⟨a112, e⟩ := List.cons.inj e
  obtain ⟨a113, e⟩ := List.cons.inj e
  obtain ⟨n110, e⟩ := List.cons.inj pu_noany
  obtain ⟨n111, e⟩ := List.cons.inj e
  obtain ⟨n112, e⟩ := List.cons.inj e
  obtain ⟨n113, e⟩ := List.cons.inj e
  obtain ⟨sIt, low⟩ := Prod.mk.inj pu_it
  generalize w1.heap.size = r at hL hit M5 M6
  have neW : ∀ β : Bn, (∀ l, l < 42 → β l = β1 l) → ∀ b ∈ (puW Try.prog Try.f12).hp, b.real β → β b.l ≠ r := by
    intro β hβ b hb' _
    have hnew : w.heap.size ≤ r := hit.new
    rw [pu_hpW] at hb'
    rcases List.mem_cons.1 hb' with rfl | hb'
    · show β 0 ≠ r
      rw [hβ 0 (by decide), hold4 0 (by decide)]
      show g ≠ r
      omega
    · rw [List.mem_singleton.1 hb']
      show β 2 ≠ r
      rw [hβ 2 (by decide), hold4 2 (by decide)]
      show gm ≠ r
      omega
  have mayW : ∀ β : Bn, (∀ l, l < 42 → β l = β1 l) → ∀ b ∈ (puW Try.prog Try.f12).hp, b.rw = true → b.real β → S2 g gm (β b.l) ∨ w.heap.size ≤ β b.l := by
    intro β hβ b hb' _ _
    rw [pu_hpW] at hb'
    rcases List.mem_cons.1 hb' with rfl | hb'
    · refine .inl (.inl ?_)
      show β 0 = g
      rw [hβ 0 (by decide), hold4 0 (by decide)]
      rfl
    · rw [List.mem_singleton.1 hb']
      refine .inl (.inr ?_)
      show β 2 = gm
      rw [hβ 2 (by decide), hold4 2 (by decide)]
      rfl
  refine wp_loop_ix (ι := Env × Array Nat) (fun i a w' => WI L read fin at_ body ff es i.2 i.1 ∧ ∃ β, Md i.1 (S2 g gm) w β1 42 (puW Try.prog Try.f12) β a w' ∧ Itr β w w' (puW Try.prog Try.f12) r gm clock es clock i.2) (fun i => (leftOf es i.2).size) ?_ (_, #[]) ⟨hW0 u, β2, M6, ⟨hit.it, hit.map, hit.sc, hit.old, hit.nd, hit.new, neW β2 M6.old⟩⟩
  rintro ⟨ρ1, seen⟩ a3 w3 ⟨hW, β3, M, hI⟩
  dsimp only at hW M hI ⊢
  obtain ⟨o1, o2, o3, o4, o5, i1, i2, rr, hcode, ⟨g1, p1, d1⟩, ⟨g2, p2, d2⟩, ⟨g3, p3, d3⟩, ⟨g4, p4, d4⟩, ⟨g5, p5, d5⟩⟩ := pu_rgB.c
  have hrr : Sy.sub [1, 1, 2, 1] (puB Try.f12) = rr := by rw [hcode]; rfl
  rw [hcode]
  have hv : ∀ {ρ : Env} {S w0 β a w}, Md ρ S w0 β1 42 (puW Try.prog Try.f12) β a w → a.eval (.tmp 109) = .pointer (some ⟨r, 0, none⟩) := fun M => by
    have := Sy.Md.slot M sIt
    rw [this]
    show Value.pointer (some ⟨_, 0, none⟩) = _
    rw [M.old 40 (by decide), hL]
  refine wp_seq (wp_region_list ?_)
  show wpList _ _ _ [o1, o2] a3 w3
  refine next_wp M hI g1 p1 d1 g2 p2 d2 (hv M) a110 n110 a111 n111 (by decide) ?_ ?_
  · intro hall a4 M4
    refine wp_seq (wp_cond_false ?_ (wp_exit ?_))
    · exact (Sy.Md.slot M4 a111).trans any_den
    · show (Sy.sub [1, 1] (puH Try.f12)).wp Try.prog (ctx Try.prog [1, 1, 1, 1, 1, 0, 1, 1] (bodyOf Try.f12) (bodyPost Try.prog Try.f12 (RetP (RpPost w g gm L read fin at_ body ff)))) a4 w3
      have hk : (∀ e ∈ es.toList, e.born ∈ seen.toList → ∀ k, e.key = .int .i64 k → k < at_ + body.size) ↔ keyMax (rpMap L read fin at_ body) ≤ at_ + body.size := by
        have := keys_all hgood hEs (at_ + body.size)
        constructor
        · intro q
          refine keyMax_le ?_ (this.1 fun e he => q e he (hall e he))
          have gp := h.gp
          have r0 := h.r0
          unfold rpTest at ht
          rw [Bool.and_eq_true, decide_eq_true_eq] at ht
          omega
        · exact fun q e he _ => this.2 (key_lt q) e he
      have M4' := Sy.Md.back (n0 := 4) (β0 := bn2 g gm) M4 (by decide) hold4
      have hI' : ∀ u, UI L read fin at_ body ff { ρ1 with u := u } := fun u => ⟨hW.u.g, hW.u.f, hW.u.i0, hW.u.i1, hW.u.i5, hW.u.i7, hW.u.b1, hW.u.c1⟩
      refine pu_after h hb ht (hI' _) ?_ M4'
      show ρ1.b 2 = _
      have hb2 := hW.b2.trans hk
      cases q : ρ1.b 2 with
      | true => rw [decide_eq_true (hb2.1 q)]
      | false => rw [decide_eq_false fun c => by rw [hb2.2 c] at q; cases q]
  · intro e he hns a4 w4 M4 hI4 hr4
    obtain ⟨k, hek, hkwf⟩ := key_of_ent hgood hEs he
    refine wp_seq (wp_cond_true ((Sy.Md.slot M4 a111).trans any_den) (wp_skip ?_))
    refine wp_block (wp_seq (wp_region_list ?_))
    show wpList _ _ _ [o3, o4, o5] a4 w4
    refine wpList_val (v := .tuple #[e.key, e.val]) (w' := w4) g3 ?_ ?_
    · unfold execOp
      simp only [p3, hv M4, Sem.run_bind, entry_run (P := Try.prog) hr4 hI4 he, Result.andThen_ok, Sem.run_pure]
    rw [d3]
    have M5' := Sy.Md.putAny M4 a112 n112 (.tuple #[e.key, e.val])
    refine wpList_val (v := e.key) (w' := w4) g4 ?_ ?_
    · have : (a4.put (some 112) (.tuple #[e.key, e.val])).eval (.tmp 112) = .tuple #[e.key, e.val] := (Sy.Md.slot M5' a112).trans any_den
      unfold execOp
      simp only [p4, this, Instr.extract, Sem.run_bind, List.getElem?_toArray, List.getElem?_cons_zero, Sem.run_pure, Result.andThen_ok]
    rw [d4]
    have M6' := Sy.Md.putAny M5' a113 n113 e.key
    refine wpList_val (v := e.key) (w' := w4) g5 ?_ ?_
    · have : ((a4.put (some 112) (.tuple #[e.key, e.val])).put (some 113) e.key).eval (.tmp 113) = e.key := (Sy.Md.slot M6' a113).trans any_den
      unfold execOp
      simp only [p5, this, Sem.run_bind, Sem.run_pure, Result.andThen_ok]
    rw [d5]
    have M7 := Sy.Md.put (Sy.Md.hi M6' 100 [e.key] low) (some 17) (iI 100)
    have e17 : ∀ ρ' : Env, (iI 100).den (ρ'.hi 100 [e.key]) β3 = e.key := fun ρ' => by
      rw [hek]
      rfl
    rw [e17] at M7
    have hgd : ∀ u, Env.good ((({ ρ1 with u := u } : Env)).hi 100 [e.key]) := fun u => hW.u.g
    refine wpList_nil ?_
    show rr.wp _ _ _ _
    rw [← hrr]
    refine seg_wp (r := pu5 Try.prog Try.f12) rfl pu_run5 (fun ρ => WI L read fin at_ body ff es (seen.push e.born) ρ) (fun ρ I => show (ro (puW Try.prog Try.f12)).cx.ok ρ from cxW ρ I.u) (hgd _) (fun q hq => by cases hq) ?_ ?_ (Sy.Md.ro M7 42)
    · have hin : ∀ e' ∈ es.toList, e'.born ∈ (seen.push e.born).toList ↔ (e'.born ∈ seen.toList ∨ e' = e) := by
        intro e' he'
        rw [Array.toList_push, List.mem_append, List.mem_singleton]
        exact ⟨fun q => q.imp id fun q => inj_of_nodup _ hI.nd he' he q, fun q => q.imp id fun q => by rw [q]⟩
      refine ⟨?_, ?_, trivial⟩
      · intro hpc β u
        have hq : ρ1.b 2 = true := hpc.1
        refine ⟨⟨hW.u.g, hW.u.f, hW.u.i0, hW.u.i1, hW.u.i5, hW.u.i7, hW.u.b1, hW.u.c1⟩, ?_⟩
        show decide (intAt [e.key] 0 < ρ1.i 7) = true ↔ _
        rw [hek, hW.u.i7, decide_eq_true_eq]
        show k < _ ↔ _
        constructor
        · intro q e' he' hs k' hk'
          rcases (hin e' he').1 hs with hs | hs
          · exact hW.b2.1 hq e' he' hs k' hk'
          · rw [hs, hek] at hk'
            injection hk' with _ hk'
            omega
        · intro q
          exact q e he ((hin e he).2 (.inr rfl)) k hek
      · intro hpc β u
        have hq : ¬ ρ1.b 2 = true := by
          have := hpc.1
          rwa [t_not] at this
        refine ⟨⟨hW.u.g, hW.u.f, hW.u.i0, hW.u.i1, hW.u.i5, hW.u.i7, hW.u.b1, hW.u.c1⟩, ?_⟩
        show false = true ↔ _
        refine ⟨fun q => (by cases q), fun q => absurd (hW.b2.2 fun e' he' hs => q e' he' ((hin e' he').2 (.inl hs))) hq⟩
    · intro ρ' I' β' a' w5 M8
      have hβ : ∀ l, l < 42 → β' l = β1 l := fun l hl => (M8.old l hl).trans (M4.old l hl)
      have hbel := Sy.Only.below_all M8.only
      have hrlt : r < w4.heap.size := (Array.getElem?_eq_some_iff.1 hr4).1
      have hmlt : gm < w4.heap.size := (Array.getElem?_eq_some_iff.1 hI4.map).1
      obtain ⟨c0, h1, h2⟩ := hI4.it
      have M9 : Md ρ' (S2 g gm) w β1 42 (puW Try.prog Try.f12) β' a' w5 := by
        have := Sy.Md.unro M8 M4.only (mayW β' hβ)
        exact ⟨this.act, this.hp, this.ne, this.may, this.cx, this.only, hβ⟩
      exact ⟨(ρ', seen.push e.born), leftOf_push (leftOf_mem.2 ⟨he, hns⟩), I', β', M9, ⟨⟨c0, (hbel.block _ hrlt).trans h1, h2⟩, (hbel.block _ hmlt).trans hI4.map, hI4.sc, hI4.old, hI4.nd, hI4.new, neW β' hβ⟩⟩
set_option maxRecDepth 100000 in
set_option maxHeartbeats 2000000 in
/-- Put. -/
theorem rput_calls (h : RpIn L read fin at_ body) (hO : Blk w g 108 (inCells gm read fin)) (hT : MapT w gm [.int .i64] false (.int .u8) L) (hne : g ≠ gm) :
    Calls Try.prog 12 #[.pointer (some ⟨g, 0, none⟩), .int .i64 at_, .string body, .bool ff] w (RetP (RpPost w g gm L read fin at_ body ff)) := by
  have hgl := hO.lt
  have hgml : gm < w.heap.size := by
    obtain ⟨es, clock, ho, _⟩ := hT.obj
    exact (Array.getElem?_eq_some_iff.1 ho).1
  let ρ0 : Env := ⟨fun n => if n = 0 then read else if n = 1 then fin else at_, fun _ => ff, fun _ => body, inF, fun _ => .bool false, fun _ => .bool false, fun _ => L⟩
  have hk0 := keyMax_nonneg L
  have hcx : puSt.cx.ok ρ0 := by
    have r0 := h.r0
    have r1 := h.r1
    have f0 := h.f0
    have f1 := h.f1
    have a0 := h.a0
    have a1 := h.a1
    have hb := h.b
    have hk := h.k
    refine cxP ⟨?_, ?_, ?_, ?_, ?_, trivial⟩ trivial
    · show 0 ≤ read ∧ read ≤ 2305843009213693952; omega
    · show 0 ≤ fin ∧ fin ≤ 2305843009213693952; omega
    · show 0 ≤ keyMax L ∧ keyMax L ≤ 2305843009213693952; omega
    · show -9223372036854775808 ≤ at_ ∧ at_ ≤ 9223372036854775807; omega
    · show (0 : Int) ≤ (body.size : Int) ∧ (body.size : Int) ≤ 140737488355328; omega
  have hM0 : Md ρ0 (S2 g gm) w (bn2 g gm) 4 puSt (bn2 g gm) ⟨#[], []⟩ w := Sy.Md.init ⟨hO, hT, trivial⟩ ⟨⟨fun _ _ => hne, trivial⟩, trivial, trivial⟩ ⟨fun _ _ => .inl rfl, fun _ _ => .inr rfl, trivial⟩ hcx rfl
  have hgood : ρ0.good := fun i => rfl
  have r0 : ∀ k : Nat, k ∈ [0, 3, 4] → retS Try.prog (lfAt (pu0 Try.prog Try.f12) k) Try.f12.results.toList = some (.one (.c (.bool (.bl false)))) := fun k hk => List.map_inj_left.1 pu_ret k hk
  have hp0 : ∀ k : Nat, k ∈ [0, 3, 4] → (lfAt (pu0 Try.prog Try.f12) k).hp = puSt.hp := fun k hk => List.map_inj_left.1 pu_hp k hk
  have hgap : (den ρ0 (gapT (.cv 0))).i = gap L read := rfl
  have bar : rpBar L read fin at_ = true → ∀ k : Nat, k ∈ [0, 3, 4] → ∀ β a w1, Md ρ0 (S2 g gm) w (bn2 g gm) 4 (lfAt (pu0 Try.prog Try.f12) k) β a w1 → bodyPost Try.prog Try.f12 (RetP (RpPost w g gm L read fin at_ body ff)) .ret a w1 := by
    intro hb k hk β a w1 hM
    refine ret_post (B := ⟨ρ0, S2 g gm, w, bn2 g gm, 4⟩) hM (r0 k hk) ⟨?_, ?_, ?_, hM.only⟩
    · show Value.bool false = _
      unfold rpRet
      rw [hb, if_pos rfl]
    · have := hM.hp (inO 0 2 true (.iv 0) (.iv 1)) (by rw [hp0 k hk]; exact List.mem_cons_self ..)
      have : Blk w1 (β 0) 108 (inCells (β 2) read fin) := this
      rw [hM.old 0 (by decide), hM.old 2 (by decide)] at this
      unfold rpFin
      rw [hb, if_pos rfl]
      exact this
    · have := hM.hp (inT 2 true (.cv 0)) (by rw [hp0 k hk]; exact List.mem_cons_of_mem _ (List.mem_cons_self ..))
      have : MapT w1 (β 2) [.int .i64] false (.int .u8) L := this
      rw [hM.old 2 (by decide)] at this
      unfold rpMap
      rw [hb, if_pos rfl]
      exact this
  have main : ∀ (k : Nat), (matchS 4 (puT Try.prog Try.f12) (lfAt (pu0 Try.prog Try.f12) k)).map noU = some puM0 → rpBar L read fin at_ = false → ∀ β a w1, Md ρ0 (S2 g gm) w (bn2 g gm) 4 (lfAt (pu0 Try.prog Try.f12) k) β a w1 →
      (Sy.sub puP (bodyOf Try.f12)).wp Try.prog (ctx Try.prog puP (bodyOf Try.f12) (bodyPost Try.prog Try.f12 (RetP (RpPost w g gm L read fin at_ body ff)))) a w1 := by
    intro k hmt hb β a w1 hM1
    rw [← pu_loop]
    have hp2 : ¬ (at_ < -1152921504606846976 ∨ 1152921504606846976 < at_) := by
      intro q
      unfold rpBar at hb
      rw [decide_eq_true q] at hb
      cases hb
    have hI1 : ∀ u, PuI L read fin at_ body ff { ρ0.sub β puM0 with u := u } := fun u => ⟨hgood, rfl, rfl, rfl, rfl, rfl, rfl, rfl, rfl, Int.le_refl 0, (by show (0 : Int) ≤ _; omega), rfl⟩
    obtain ⟨u, β', hM2⟩ := Sy.Md.enter hM1 hmt fun u => (hI1 u).cx h hb
    refine loop_wp (w0 := w) (r := pu1 Try.prog Try.f12) rfl pu_run1 (PuI L read fin at_ body ff) (fun ρ => ((body.size : Int) - ρ.i 3).toNat) (fun ρ I => I.g) (fun ρ I q hq => by cases hq) (fun ρ I => I.cx h hb) ?_ (hI1 u) hM2
    intro ρ I
    have n0 := I.n0
    have n1 := I.n1
    have e1 := I.i1
    have e2 := I.i2
    have e5 := I.i5
    have e6 := I.i6
    have es := I.s0
    obtain ⟨n, hn⟩ : ∃ n : Nat, ρ.i 3 = (n : Int) := ⟨(ρ.i 3).toNat, by omega⟩
    have c1 := I.c1
    rw [hn, Int.toNat_natCast] at c1
    have htn : (ρ.i 3 + 1).toNat = n + 1 := by omega
    have next : ∀ {β : Bn} {l : List As} {u}, (({ ρ.sub β l with u := u } : Env).i 3 = ρ.i 3 + 1) → (∀ j, j ≠ 3 → ({ ρ.sub β l with u := u } : Env).i j = ρ.i j) → (({ ρ.sub β l with u := u } : Env).s = ρ.s) → (({ ρ.sub β l with u := u } : Env).b = ρ.b) → (({ ρ.sub β l with u := u } : Env).f = ρ.f) → ρ.i 3 < (body.size : Int) →
        ({ ρ.sub β l with u := u } : Env).c 1 = stepM (rpPA L read fin at_ body) (fillM (rpPA L read fin at_ body) L n) n → PuI L read fin at_ body ff { ρ.sub β l with u := u } ∧ ((body.size : Int) - ({ ρ.sub β l with u := u } : Env).i 3).toNat < ((body.size : Int) - ρ.i 3).toNat := by
      intro β l u h3 hj hs hb' hf' hlt hc
      refine ⟨⟨I.g, hf'.trans I.f, (hj 0 (by decide)).trans I.i0, (hj 1 (by decide)).trans I.i1, (hj 2 (by decide)).trans I.i2, (hj 5 (by decide)).trans I.i5, (hj 6 (by decide)).trans I.i6, by rw [hs]; exact I.s0, by rw [hb']; exact I.b0, by omega, by omega, ?_⟩, by omega⟩
      rw [hc, h3, htn]
      rfl
    have hP : (den ρ pT).i = at_ + (n : Int) := by show ρ.i 2 + ρ.i 3 = _; omega
    have hin : ((den ρ pN).b = true) = (inM (fillM (rpPA L read fin at_ body) L n) (at_ + n) ≠ none) := by rw [pN, inC_ok, hP]; show (inM (ρ.c 1) _ ≠ none) = _; rw [c1]
    have hlt : (den ρ pI).b = true → ρ.i 3 < (body.size : Int) := fun q => by
      rw [pI, t_lt] at q
      have : ρ.i 3 < ((ρ.s 0).size : Int) := q
      rw [es] at this
      exact this
    have put : ∀ {β : Bn} {u}, inM (fillM (rpPA L read fin at_ body) L n) (at_ + n) = none → gap L read ≤ at_ + n → at_ + n < gap L read + (2048 - (gap L read - read)) → (fin = 0 ∨ at_ + n < fin) → ({ ρ.sub β pBc with u := u } : Env).c 1 = stepM (rpPA L read fin at_ body) (fillM (rpPA L read fin at_ body) L n) n := by
      intro β u q1 q2 q3 q4
      show _ = if inM (fillM (rpPA L read fin at_ body) L n) (at_ + n) = none ∧ gap L read ≤ at_ + n ∧ at_ + n < gap L read + (2048 - (gap L read - read)) ∧ (fin = 0 ∨ at_ + n < fin) then mPut 1 (rowK (at_ + n) (Sy.byteOf body n)) (fillM (rpPA L read fin at_ body) L n) else fillM (rpPA L read fin at_ body) L n
      rw [if_pos ⟨q1, q2, q3, q4⟩]
      show mPut 1 [Value.int .i64 (ρ.i 2 + ρ.i 3), Value.int .u8 (Sy.byteOf (ρ.s 0) (ρ.i 3))] (ρ.c 1) = _
      rw [c1, e2, hn, es]
      rfl
    have skip : ∀ {β : Bn} {u}, ¬ (inM (fillM (rpPA L read fin at_ body) L n) (at_ + n) = none ∧ gap L read ≤ at_ + n ∧ at_ + n < gap L read + (2048 - (gap L read - read)) ∧ (fin = 0 ∨ at_ + n < fin)) → ({ ρ.sub β pB with u := u } : Env).c 1 = stepM (rpPA L read fin at_ body) (fillM (rpPA L read fin at_ body) L n) n := by
      intro β u q
      show _ = if inM (fillM (rpPA L read fin at_ body) L n) (at_ + n) = none ∧ gap L read ≤ at_ + n ∧ at_ + n < gap L read + (2048 - (gap L read - read)) ∧ (fin = 0 ∨ at_ + n < fin) then mPut 1 (rowK (at_ + n) (Sy.byteOf body n)) (fillM (rpPA L read fin at_ body) L n) else fillM (rpPA L read fin at_ body) L n
      rw [if_neg q]
      exact c1
    have j3 : ∀ {β : Bn} {u} (j : Nat), j ≠ 3 → ({ ρ.sub β pB with u := u } : Env).i j = ρ.i j := fun {β u} j hj => by
      match j with
      | 0 => rfl
      | 1 => rfl
      | 2 => rfl
      | 3 => exact absurd rfl hj
      | j + 4 => rfl
    have j3c : ∀ {β : Bn} {u} (j : Nat), j ≠ 3 → ({ ρ.sub β pBc with u := u } : Env).i j = ρ.i j := fun {β u} j hj => by
      match j with
      | 0 => rfl
      | 1 => rfl
      | 2 => rfl
      | 3 => exact absurd rfl hj
      | j + 4 => rfl
    refine ⟨?_, ?_, ?_, ?_, ?_, ?_, ?_, trivial⟩
    all_goals
      intro hpc
      replace hpc : pcs ρ _ := hpc
    rotate_right
    · intro β a w' hM
      have hge : ¬ ρ.i 3 < (body.size : Int) := by
        have := hpc.1
        rw [t_not, pI, t_lt] at this
        have : ¬ ρ.i 3 < ((ρ.s 0).size : Int) := this
        rw [es] at this
        exact this
      have hmap : ρ.c 1 = rpMap L read fin at_ body := by
        unfold rpMap
        rw [hb, if_neg (by decide), c1]
        congr 1
        omega
      show (puR Try.f12).wp Try.prog (ctx Try.prog [1, 1, 1, 1] (bodyOf Try.f12) (bodyPost Try.prog Try.f12 (RetP (RpPost w g gm L read fin at_ body ff)))) a w'
      refine part_preT (p := [0, 1, 1]) (r := pu2 Try.prog Try.f12) (T := puU Try.prog Try.f12) rfl pu_run2 (UI L read fin at_ body ff) (fun ρ I => by rw [pu_cxU]; exact I.cx h hb) I.g (fun q hq => by cases hq) ?_ ?_ hM
      · have ht : ∀ b, (b = true ↔ ff = true ∧ fin = 0 ∧ gap L read ≤ at_ + body.size ∧ at_ + (body.size : Int) ≤ gap L read + (2048 - (gap L read - read))) → b = rpTest L read fin at_ body ff := by
          intro b hb
          unfold rpTest
          cases b with
          | true =>
            obtain ⟨q1, q2⟩ := hb.1 rfl
            rw [q1, decide_eq_true q2]
            rfl
          | false =>
            cases q : ff && decide (fin = 0 ∧ gap L read ≤ at_ + body.size ∧ at_ + (body.size : Int) ≤ gap L read + (2048 - (gap L read - read))) with
            | false => rfl
            | true =>
              rw [Bool.and_eq_true, decide_eq_true_eq] at q
              exact absurd (hb.2 q) (by decide)
        have hQ : (den ρ qT).i = at_ + (body.size : Int) := by show ρ.i 2 + ((ρ.s 0).size : Int) = _; rw [e2, es]
        have b0 := I.b0
        refine ⟨?_, ?_, ?_, ?_, trivial⟩
        all_goals
          intro hpc β u
          replace hpc : pcs ρ _ := hpc
          simp only [pcs, t_lt, t_le, t_eq, t_not, t_bv, i_iv, i_il, hQ, b0, e1, e5, and_true] at hpc
          refine ⟨I.g, I.f, I.i0, I.i1, I.i5, ?_, ht _ ?_, hmap⟩
        · exact hQ
        · show decide ((den ρ qT).i ≤ ρ.i 6) = true ↔ _
          rw [hQ, e6, decide_eq_true_eq]
          exact ⟨fun q => ⟨hpc.2.2.1, hpc.2.1, hpc.1, q⟩, fun q => q.2.2.2⟩
        · exact hQ
        · exact ⟨fun q => (by cases q), fun q => absurd q.2.2.1 hpc.1⟩
        · exact hQ
        · exact ⟨fun q => (by cases q), fun q => absurd q.2.1 hpc.1⟩
        · exact hQ
        · exact ⟨fun q => (by cases q), fun q => absurd q.1 hpc.1⟩
      · intro ρ2 I2 β2 a2 w2 M2
        obtain ⟨c, hc, hopd⟩ := pu_cond
        rw [hc]
        refine cond_wp M2 hopd ?_ ?_
        · intro ht
          have ht : rpTest L read fin at_ body ff = true := I2.b1.symm.trans ht
          refine part_pre (B := ⟨ρ2, S2 g gm, w, bn2 g gm, 4⟩) (sp := []) (p := [1, 0, 0]) (r := pu3 Try.prog Try.f12) I2.g (fun q hq => by cases hq) rfl rfl pu_run3 ⟨?_, trivial⟩ M2
          intro _ β3 a3 w3 M3
          exact pu_map hgl hgml h hb ht I2 M3
        · intro ht
          have ht : rpTest L read fin at_ body ff = false := I2.b1.symm.trans ht
          refine wp_skip ?_
          have hV : ∀ u, VI L read fin at_ body ff { ρ2.sub β2 [.i 8 (.iv 1)] with u := u } := fun u => by
            refine ⟨I2.g, I2.f, I2.i0, I2.i5, ?_, I2.c1⟩
            show ρ2.i 1 = _
            rw [I2.i1]
            unfold rpFin
            rw [hb, if_neg (by decide), if_neg fun c => by rw [ht] at c; exact absurd c.1 (by decide)]
          obtain ⟨u, β3, M3⟩ := Sy.Md.enter M2 pu_match7 fun u => (hV u).cx h
          exact pu_end h hb (hV u) M3
    all_goals
      intro β u
      simp only [pcs, t_lt, t_le, t_eq, t_not, hin, hP, i_iv, i_il, e1, e5, e6, and_true] at hpc
    · exact next rfl j3c rfl rfl rfl (hlt hpc.2.2.2.2.2) (put (Classical.not_not.1 hpc.2.2.2.2.1) hpc.2.2.2.1 hpc.2.2.1 (.inr hpc.1))
    · exact next rfl j3 rfl rfl rfl (hlt hpc.2.2.2.2.2) (skip fun q => q.2.2.2.elim (fun q => hpc.2.1 q) (fun q => hpc.1 q))
    · exact next rfl j3c rfl rfl rfl (hlt hpc.2.2.2.2) (put (Classical.not_not.1 hpc.2.2.2.1) hpc.2.2.1 hpc.2.1 (.inl hpc.1))
    · exact next rfl j3 rfl rfl rfl (hlt hpc.2.2.2) (skip fun q => hpc.1 q.2.2.1)
    · exact next rfl j3 rfl rfl rfl (hlt hpc.2.2) (skip fun q => hpc.1 q.2.1)
    · exact next rfl j3 rfl rfl rfl (hlt hpc.2) (skip fun q => hpc.1 q.1)
  refine calls_pre (B := ⟨ρ0, S2 g gm, w, bn2 g gm, 4⟩) (sp := [bySp]) (p := puP) (xs := puA) (s := puSt) (r := pu0 Try.prog Try.f12) hgood (by_ok rfl) rfl Try.func12 rfl rfl pu_run0 hM0 ?_ rfl
  refine ⟨?_, ?_, ?_, ?_, ?_, trivial⟩
  all_goals
    intro hpc β a w1 hM
    replace hpc : pcs ρ0 _ := hpc
    simp only [pcs, t_lt, t_le, t_eq, t_not, i_iv, i_il, hgap, and_true] at hpc
  · refine bar ?_ 0 (by decide) β a w1 hM
    unfold rpBar rOver
    rw [decide_eq_true (p := 0 < fin ∧ gap L read = fin) ⟨hpc.2.1, hpc.1⟩, Bool.or_true]
  · refine main 1 pu_match1 ?_ β a w1 hM
    unfold rpBar rOver
    rw [decide_eq_false (p := 0 < fin ∧ gap L read = fin) fun q => hpc.1 q.2, Bool.or_false, decide_eq_false_iff_not]
    rintro (q | q)
    · exact hpc.2.2.2 q
    · exact hpc.2.2.1 q
  · refine main 2 pu_match2 ?_ β a w1 hM
    unfold rpBar rOver
    rw [decide_eq_false (p := 0 < fin ∧ gap L read = fin) fun q => hpc.1 q.1, Bool.or_false, decide_eq_false_iff_not]
    rintro (q | q)
    · exact hpc.2.2 q
    · exact hpc.2.1 q
  · refine bar ?_ 3 (by decide) β a w1 hM
    unfold rpBar
    rw [decide_eq_true (show at_ < -1152921504606846976 ∨ 1152921504606846976 < at_ from .inr hpc.1)]
    rfl
  · refine bar ?_ 4 (by decide) β a w1 hM
    unfold rpBar
    rw [decide_eq_true (show at_ < -1152921504606846976 ∨ 1152921504606846976 < at_ from .inl hpc)]
    rfl
end
end Go.Proofs.Ytnjpoidpfcfbeaa
