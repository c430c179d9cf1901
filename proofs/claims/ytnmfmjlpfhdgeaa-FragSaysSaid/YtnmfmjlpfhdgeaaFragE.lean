/- Fragments: the program's Tick: its loop; its contract. -/
import Derived.Test.YtnmfmjlpfhdgeaaFragD
namespace Go.Proofs.Ytnmfmjlpfhdgeaa
open Go.RowKit Sy
open Go.ChangeMaps (setBlock)
set_option linter.unusedVariables false
set_option linter.unusedSimpArgs false

section
variable {w w1 : World} {g m r clock : Nat} {bs : List Nat} {es : List Ent} {n : Int} {T : List Tri} {seen : Array Nat} {a : Act}
set_option maxRecDepth 100000 in
theorem tkEnv_W {t : Tri} (ht : GL t.2.2.2) (u : Nat → Value) : WhL (tkEnv n t u) 200 t.2.2 :=
  ⟨fun β => pk_den (h := 230) (fsC_ok ht) rfl rfl rfl rfl rfl rfl rfl rfl rfl β, rfl, rfl, rfl, rfl, rfl, rfl⟩
theorem TkT.eok (K : TkT w g m r clock bs es T) (hn : 0 ≤ n) {t : Tri} (ht : t ∈ tkC n seen T) : EOk t.2.2 := by
  obtain ⟨t0, h0, e⟩ := List.mem_filterMap.1 ht
  have ho : EOk t0.2.2 := K.h.ok.ok t0.2.2 (by rw [← K.e]; exact List.mem_map.2 ⟨t0, h0, rfl⟩)
  unfold tkF at e
  split at e
  · unfold tkF1 at e
    split at e
    · rename_i q
      injection e with e
      subst e
      have := ho.a0
      exact ⟨ho.ne, ho.gl, ho.nm, by show 0 ≤ t0.2.2.1 + n; omega, by show t0.2.2.1 + n < 30; omega⟩
    · cases e
  · injection e with e
    subst e
    exact ho
set_option maxRecDepth 100000 in
set_option maxHeartbeats 2000000 in
theorem tk_round (K : TkT w g m r clock bs es T) (hn : 0 ≤ n) (hn1 : n ≤ 9223372036854775807) (J : TkJ w w1 g m r clock bs n T seen a) {Q : Exit → Act → World → Prop}
    (hQ : (∀ t ∈ tkC n seen T, t.1.born ∈ seen.toList) → ∀ ρ a', ρ.good → Md ρ (fun i => i = r) w1 (tkN g m r) 42 tkT (tkN g m r) a' w1 → Q (.exit 0) a' w1) :
    (tkB Try.f5).wp Try.prog (Exit.then (fun a' w' => ∃ seen', tkM seen' T < tkM seen T ∧ TkJ w w' g m r clock bs n T seen' a') Q) a w1 := by
  obtain ⟨g1', g2', g3, g4, g5⟩ := K.gm
  obtain ⟨u0, hact⟩ := J.act
  obtain ⟨c0, hit, hsc⟩ := J.it
  obtain ⟨ents, hmap, hents⟩ := J.map
  obtain ⟨nd1, nd2, nd3⟩ := K.nds (n := n) (seen := seen)
  have hcx : ∀ (ρ : Env), ρ.i 20 = n → tkT.cx.ok ρ := fun ρ e => cxP ⟨by show (0 : Int) ≤ ρ.i 20 ∧ ρ.i 20 ≤ 9223372036854775807; omega, trivial⟩ trivial
  have M0 : Md (tkE0 n u0) (fun i => i = r) w1 (tkN g m r) 42 tkT (tkN g m r) a w1 := Sy.Md.anew hact ⟨J.obj, trivial⟩ ⟨trivial, trivial⟩ ⟨fun h => (by cases h), trivial⟩ (hcx _ rfl)
  have I0 : Itx (tkN g m r) (fun i => i = r) w1 w1 tkT r m clock ents clock seen := by
    refine ⟨⟨c0, hit, hsc⟩, hmap, Nat.le_refl _, fun x hx => ?_, ?_, .inl rfl, fun b hb _ hf => ?_⟩
    · rw [hents] at hx
      obtain ⟨t, ht, rfl⟩ := List.mem_map.1 hx
      exact (K.mem ht).2.1
    · rw [hents, List.map_map]; exact nd3
    · rw [List.mem_singleton.1 hb] at hf
      exact g3 (fp_one rfl hf).symm
  obtain ⟨o1, o2, o3, o4, o5, i1, i2, hcode, ⟨h1, p1, d1⟩, ⟨h2, p2, d2⟩, ⟨h3, p3, d3⟩, ⟨h4, p4, d4⟩, ⟨h5, p5, d5⟩⟩ := tk_code
  obtain ⟨a14, e⟩ := Prod.mk.inj tk_any
  obtain ⟨a15, e⟩ := Prod.mk.inj e
  obtain ⟨a16, e⟩ := Prod.mk.inj e
  obtain ⟨n14, e⟩ := Prod.mk.inj e
  obtain ⟨n15, e⟩ := Prod.mk.inj e
  obtain ⟨n16, a13⟩ := Prod.mk.inj e
  have hv : ∀ {ρ : Env} {S : Nat → Prop} {w0 : World} {a : Act} {w' : World}, Md ρ S w0 (tkN g m r) 42 tkT (tkN g m r) a w' → a.eval (.tmp 13) = .pointer (some ⟨r, 0, none⟩) := fun M => (Sy.Md.slot M a13).trans rfl
  have any_den : ∀ {ρ : Env} {k : Nat} {v : Value} {f : Nat → Value} {β : Bn}, (SV.any k).den { ρ with u := fun j => if j = k then v else f j } β = v := if_pos rfl
  rw [hcode]
  refine wp_seq (wp_region_list ?_)
  show wpList _ _ _ [o1, o2] a w1
  refine next_wpx M0 I0 h1 p1 d1 h2 p2 d2 (hv M0) a14 n14 a15 n15 (by decide) ?_ ?_
  · intro hall a4 M4
    refine wp_seq (wp_cond_false ?_ (wp_exit ?_))
    · exact (Sy.Md.slot M4 a15).trans any_den
    · refine hQ (fun t ht => hall t.1 ?_) _ a4 (fun i => rfl) M4
      rw [hents]; exact List.mem_map.2 ⟨t, ht, rfl⟩
  · intro e he hns a4 w4 M4 I4 hr4
    rw [hents] at he
    obtain ⟨t, ht, rfl⟩ := List.mem_map.1 he
    obtain ⟨htb, hborn, hkey, hval, hnm⟩ := K.mem ht
    obtain ⟨b1, b2, b3, b4⟩ := K.ne htb
    have hE := K.eok hn ht
    have hO4 := M4.only
    have hents' : t.1 ∈ ents.toList := by rw [hents]; exact he
    refine wp_seq (wp_cond_true ((Sy.Md.slot M4 a15).trans any_den) (wp_skip ?_))
    refine wp_block (wp_seq (wp_region_list ?_))
    show wpList _ _ _ (o3 :: o4 :: o5 :: tkO5 Try.f5) a4 w4
    refine wpList_val (v := .tuple #[t.1.key, t.1.val]) (w' := w4) h3 ?_ ?_
    · unfold execOp
      simp only [p3, hv M4, Sem.run_bind, run_entry_at w4 r m clock seen ents clock t.1 hr4 I4.map hents' I4.nd, Result.andThen_ok, Sem.run_pure]
    rw [d3]
    have M5 := Sy.Md.putAny M4 a16 n16 (.tuple #[t.1.key, t.1.val])
    generalize (a4.put (some 16) (.tuple #[t.1.key, t.1.val])) = a5 at M5
    have s16 : a5.eval (.tmp 16) = .tuple #[t.1.key, t.1.val] := (Sy.Md.slot M5 a16).trans any_den
    obtain ⟨u5, hu5⟩ : ∃ u5, a5 = ⟨(tkTm.map (SV.den (tkE0 n u5) (tkN g m r))).toArray, []⟩ := ⟨_, M5.act⟩
    have hobj4 : Blk w4 g 53 [.map (some m)] := J.obj.only hO4 g3
    have hm4 : w4.heap[m]? = some (.map ents clock) := I4.map
    clear M5 M4
    have M6 : Md (tkEnv n t u5) (fun _ => False) w4 (tkN g m r) 42 tkT (tkN g m r) a5 w4 := Sy.Md.anew (by
      rw [hu5]
      exact congrArg (fun l : List Value => (⟨l.toArray, []⟩ : Act)) (tk_tm (ρ := tkE0 n u5) (ρ' := tkEnv n t u5) (β := tkN g m r) (β' := tkN g m r) rfl rfl rfl rfl)) ⟨hobj4, trivial⟩ ⟨trivial, trivial⟩ ⟨fun h => (by cases h), trivial⟩ (hcx _ rfl)
    have keD : ∀ β, denL (tkEnv n t u5) β keC = enN t.2.2 := fun β => nm_den hnm (by
      show intAt (enN t.2.2 ++ _) 0 = _
      rfl) rfl rfl rfl β
    have M7 := Sy.Md.put M6 (some 17) (.one (.agg keC))
    have e17 : (SV.one (.agg keC)).den (tkEnv n t u5) (tkN g m r) = t.1.key := by
      show Value.agg (denL _ _ keC).toArray = _
      rw [keD, hkey]
    rw [e17] at M7
    refine wpList_val (v := t.1.key) (w' := w4) h4 ?_ ?_
    · unfold execOp
      simp only [p4, s16, Instr.extract, Sem.run_bind, List.getElem?_toArray, List.getElem?_cons_zero, Sem.run_pure, Result.andThen_ok]
    rw [d4]
    have s16' : (a5.put (some 17) t.1.key).eval (.tmp 16) = .tuple #[t.1.key, t.1.val] := by
      have h16 : (tkT.put (some 17) (.one (.agg keC))).tm[16]? = some (.any 16) := by
        show (tkTm.set 17 _)[16]? = _
        rw [List.getElem?_set_ne (by decide)]
        exact a16
      have q := Sy.Md.slot M7 h16
      have q0 := Sy.Md.slot M6 a16
      rw [q, ← s16, q0]
    have M8 := Sy.Md.put M7 (some 18) (.one (.c (.ptv (.iv 304))))
    have i304 : (tkEnv n t u5).i 304 = (t.2.1 : Int) := by
      show intAt (enN t.2.2 ++ [.int .i64 (t.2.1 : Int)]) 4 = _
      rfl
    have e18 : (SV.one (.c (.ptv (.iv 304)))).den (tkEnv n t u5) (tkN g m r) = t.1.val := by
      show Value.pointer (some ⟨((tkEnv n t u5).i 304).toNat, 0, none⟩) = _
      rw [i304, Int.toNat_natCast, hval]
      rfl
    rw [e18] at M8
    refine wpList_val (v := t.1.val) (w' := w4) h5 ?_ ?_
    · unfold execOp
      simp only [p5, s16', Instr.extract, Sem.run_bind, List.getElem?_toArray, List.getElem?_cons_zero, List.getElem?_cons_succ, Sem.run_pure, Result.andThen_ok]
    rw [d5, ← List.append_nil (tkO5 Try.f5)]
    have M8' := Go.Proofs.Ytnmfmjlpfhdgeaa.Md.nxTo M8 60
    have hgd : (tkEnv n t u5).good := fun i => rfl
    refine opsSt_ok (B := ⟨tkEnv n t u5, fun _ => False, w4, tkN g m r, 42⟩) (sp := []) hgd (fun q hq => by cases hq) tk_s7 (fun β9 a9 w9 M9 => ?_) M8'
    refine wpList_nil ?_
    show (tkX Try.f5).wp Try.prog _ a9 w9
    have WL := tkEnv_W (n := n) hE.gl u5
    have hB9 : Blk w9 t.2.1 60 (whV t.2.2.1 t.2.2.2) := ((J.blk t ht).only hO4 b2).only M9.only (fun h => h)
    have hb4 : t.2.1 < w4.heap.size := Nat.lt_of_lt_of_le b1 (Nat.le_trans J.only.size hO4.size)
    obtain ⟨f0, e⟩ := Prod.mk.inj tk_f7
    obtain ⟨f1, e⟩ := Prod.mk.inj e
    obtain ⟨f2, f3⟩ := Prod.mk.inj e
    have M10 := Go.Proofs.Ytnmfmjlpfhdgeaa.Md.anyS M9 (S' := fun i => i = t.2.1) (fun i hi => hi.elim) 48
    have o9 : ∀ l, l < 42 → β9 l = tkN g m r l := M9.old
    obtain ⟨β11, M11, e50⟩ := Go.Proofs.Ytnmfmjlpfhdgeaa.Md.focusB M10 50 (show 48 ≤ 50 by decide) f0 f1 f2 f3 (b := whBk 50 200) (t := .iv 304) (g := t.2.1) rfl rfl (by
      show ((tkEnv n t u5).i 304).toNat = _
      rw [i304, Int.toNat_natCast]) (fun β hβ => (WL.bk hβ).2 hB9) (fun x hx hr hf => by
      have hx' := hx
      rw [tk_h7] at hx'
      rcases List.mem_cons.1 hx' with rfl | hx'
      · rcases M9.may _ hx rfl hr _ hf with q | q
        · exact q
        · exact (Nat.not_le.2 hb4 q).elim
      · rw [List.mem_singleton.1 hx'] at hf
        exact b4 ((fp_one rfl hf).trans (o9 0 (by decide)))) (fun _ => .inl rfl)
    have M12 : Md (tkEnv n t u5) (fun i => i = t.2.1) w4 β11 62 (tkS8 Try.prog Try.f5) β11 a9 w9 := Go.Proofs.Ytnmfmjlpfhdgeaa.Md.nxTo (Go.Proofs.Ytnmfmjlpfhdgeaa.Md.cxTo (Go.Proofs.Ytnmfmjlpfhdgeaa.Md.anyS M11 (fun _ q => q) 62) tkcx (by
      have a0 := hE.a0
      have a1 := hE.a1
      refine cxP ⟨by show (0 : Int) ≤ n ∧ n ≤ 9223372036854775807; omega, ?_, trivial⟩ trivial
      show (0 : Int) ≤ t.2.2.1 ∧ t.2.2.1 ≤ 29
      omega)) 70
    have o11 : ∀ l, l < 42 → β11 l = tkN g m r l := fun l hl => (M11.old l (by omega)).trans (o9 l hl)
    have hr4' : r < w4.heap.size := (Array.getElem?_eq_some_iff.1 hr4).1
    have hm4' : m < w4.heap.size := (Array.getElem?_eq_some_iff.1 hm4).1
    obtain ⟨A, B, eT, eC, eC'⟩ := tkC_split K.nd ht hns
    -- the frame at the round's end
    have actE : ∀ {ρ : Env} {S : Nat → Prop} {w0 : World} {β0 : Bn} {s : Sy.St} {β : Bn} {a' : Act} {w' : World}, (∀ u, ({ ρ.sub β [] with u := u } : Env).i 20 = n) → β0 0 = g → β0 40 = r → Md ρ S w0 β0 62 s β a' w' → (matchS 62 { tkT with cx := ⟨[], []⟩ } s).map noU = some [] → ∃ u : Nat → Value, a' = ⟨(tkTm.map (SV.den (tkE0 n u) (tkN g m r))).toArray, []⟩ := fun hi h0 h40 M hm => by
      obtain ⟨u, β', M'⟩ := Sy.Md.enter M hm fun u => ⟨fun _ h => (by cases h), fun _ h => (by cases h)⟩
      refine ⟨u, M'.act.trans ?_⟩
      show (⟨(tkTm.map _).toArray, []⟩ : Act) = _
      rw [tk_tm (ρ' := tkE0 n u) (β' := tkN g m r) ((M'.old 0 (by decide)).trans h0) ((M'.old 40 (by decide)).trans h40) (hi u) rfl]
    refine part_pre (B := ⟨tkEnv n t u5, fun i => i = t.2.1, w4, β11, 62⟩) (sp := []) hgd (fun q hq => by cases hq) rfl (p := [0, 1]) (c := tkX Try.f5) (r := tkR8 Try.prog Try.f5) rfl tk_run8 ⟨?_, trivial⟩ M12
    intro _ β13 a13' w13 M13
    show (Sy.sub [0, 1] (tkX Try.f5)).wp Try.prog (ctx Try.prog [0, 1] (tkX Try.f5) _) a13' w13
    obtain ⟨x, hx, hopd⟩ := tk_cond
    rw [hx]
    have M13 : Md (tkEnv n t u5) (fun i => i = t.2.1) w4 β11 62 (tkS9 Try.prog Try.f5) β13 a13' w13 := M13
    refine cond_wp M13 hopd (fun hc => ?_) (fun hc => ?_)
    · -- its time is over
      rw [t_le] at hc
      change 30 - t.2.2.1 ≤ n at hc
      have hF : tkF1 n t = none := by unfold tkF1; rw [if_neg (by omega)]
      obtain ⟨id7, h7⟩ := tk_c7
      rw [h7]
      refine wp_seq ?_
      obtain ⟨o, ho5, hg5, hd5, c, hc5, hcal, hcar, hcat⟩ := tk_o7
      obtain ⟨listed, htk, hrd1, hrd2⟩ := tk_takes
      obtain ⟨t29, e⟩ := Prod.mk.inj tk_f10
      obtain ⟨t30, e⟩ := Prod.mk.inj e
      obtain ⟨h10, e⟩ := Prod.mk.inj e
      obtain ⟨hsz, e⟩ := Prod.mk.inj e
      obtain ⟨hns7, e⟩ := Prod.mk.inj e
      obtain ⟨hmo, hh⟩ := Prod.mk.inj e
      refine region_last (B := ⟨tkEnv n t u5, fun i => i = t.2.1, w4, β11, 62⟩) (n := 5) hmo hns7 hsz hh htk hrd1 ho5 hg5 hrd2 hgd M13 fun a14' M14 => ?_
      have M14 : Md (tkEnv n t u5) (fun i => i = t.2.1) w4 β13 70 (tkS10 Try.prog Try.f5) β13 a14' w13.drew := by
        have := M14
        rw [tk_nx9] at this
        exact this
      have o13 : ∀ l, l < 62 → β13 l = β11 l := M13.old
      have hm13 : w13.drew.heap[m]? = some (.map ents clock) := (M14.only.block m hm4' (fun e => b3 e.symm)).trans hm4
      have hr13 : w13.drew.heap[r]? = some (.mapIter (some m) clock (seen.push t.1.born) clock) := (M14.only.block r hr4' (fun e => b2 e.symm)).trans hr4
      have hj : fM 4 (enN t.2.2) (triR (tkC n seen T)) = some (tkC n seen A).length := by
        rw [eC]
        have key : ∀ (L : List Tri) (R : List Tri), (∀ x ∈ L, enN x.2.2 ≠ enN t.2.2) → (∀ x ∈ L, kAll nmLv (enN x.2.2)) → fM 4 (enN t.2.2) (triR (L ++ t :: R)) = some L.length := by
          intro L
          induction L with
          | nil =>
            intro R _ _
            show (if sqR ((enN t.2.2 ++ [ptv t.2.1]).take 4) (enN t.2.2) then some 0 else _) = some 0
            rw [if_pos]
            rw [show (enN t.2.2 ++ [ptv t.2.1]).take 4 = enN t.2.2 from rfl]
            exact sqR_refl _
          | cons x L ih =>
            intro R h1 h2
            show (if sqR ((enN x.2.2 ++ [ptv x.2.1]).take 4) (enN t.2.2) then some 0 else (fM 4 (enN t.2.2) (triR (L ++ t :: R))).map (· + 1)) = some (L.length + 1)
            rw [if_neg, ih R (fun y hy => h1 y (List.mem_cons_of_mem _ hy)) (fun y hy => h2 y (List.mem_cons_of_mem _ hy))]
            · rfl
            · rw [show (enN x.2.2 ++ [ptv x.2.1]).take 4 = enN x.2.2 from rfl]
              intro q
              exact h1 x (List.mem_cons_self ..) ((sqR_iff (h2 x (List.mem_cons_self ..)) hnm).1 q)
        rw [eC, List.map_append, List.map_cons, List.nodup_append] at nd1
        refine key _ _ (fun x hx q => nd1.2.2 _ (List.mem_map.2 ⟨x, hx, rfl⟩) _ (List.mem_cons_self ..) q) (fun x hx => ?_)
        exact (K.mem (n := n) (seen := seen) (t := x) (by rw [eC]; exact List.mem_append_left _ hx)).2.2.2.2
      have hrows : ents.toList.map (fun e => (e.key, e.val)) = (triR (tkC n seen T)).map (entOf true 4) := by
        rw [hents, List.map_map]
        unfold triR
        rw [List.map_map]
        refine List.map_congr_left fun x hx => ?_
        obtain ⟨_, _, k1, k2, _⟩ := K.mem hx
        show (x.1.key, x.1.val) = entOf true 4 (enN x.2.2 ++ [ptv x.2.1])
        rw [k1, k2]
        rfl
      have hall : ∀ q ∈ triR (tkC n seen T), kAll (nmLv ++ [.ptr]) q := fun q hq => by
        obtain ⟨x, hx, rfl⟩ := List.mem_map.1 hq
        exact kAll_app (K.mem hx).2.2.2.2 ⟨x.2.1, rfl⟩
      obtain ⟨kt, et, z, hut, hko, hl100, _, _, _⟩ := mapOk_ok (P := Try.prog) (t := 51) (ks := nmLv) (ag := true) (v := .ptr) (by kernel_rfl)
      have hrun := run_deleteX (ty := o.type) (kty := 55) hut hko hl100 hm13 hrows hall hnm hj
      have v29 : a14'.eval (.tmp 29) = .map (some m) := by
        rw [Sy.Md.slot M14 t29]
        show Value.map (some (β13 2)) = _
        rw [o13 2 (by decide), o11 2 (by decide)]
        rfl
      have v30 : a14'.eval (.tmp 30) = keyV true (enN t.2.2) := by
        rw [Sy.Md.slot M14 t30]
        show Value.agg (denL _ _ keC).toArray = _
        rw [keD]
        rfl
      have hml : m < w13.drew.heap.size := (Array.getElem?_eq_some_iff.1 hm13).1
      have hset : ∀ i, i ≠ m → ({ w13.drew with heap := w13.drew.heap.setIfInBounds m (.map (ents.eraseIdxIfInBounds (tkC n seen A).length) clock) } : World).heap[i]? = w13.drew.heap[i]? := fun i hi => Array.getElem?_setIfInBounds_ne (Ne.symm hi)
      have b13 : ∀ l, l < 42 → β13 l = tkN g m r l := fun l hl => (o13 l (by omega)).trans (o11 l hl)
      refine ⟨.tuple #[], { w13.drew with heap := w13.drew.heap.setIfInBounds m (.map (ents.eraseIdxIfInBounds (tkC n seen A).length) clock) }, ?_, ?_, ?_⟩
      · have e1 : c = ⟨.builtin .delete, #[.tmp 29, .tmp 30], #[51, 55]⟩ := by
          obtain ⟨a, b, d⟩ := c
          simp only at hcal hcar hcat
          rw [hcal, hcar, hcat]
        subst e1
        unfold execOp
        simp only [hc5, resolve, invoke, builtin, Sem.run_bind, Sem.run_pure, Result.andThen_ok, List.map_toArray, List.map_cons, List.map_nil, v29, v30]
        show ((Builtin.delete_ #[51, 55] o.type #[.map (some m), keyV true (enN t.2.2)]).run Try.prog w13.drew).andThen _ = _
        rw [hrun]
        rfl
      · intro b hb
        rw [tk_h9] at hb
        have hb' : b ∈ (tkS10 Try.prog Try.f5).hp := by rw [h10]; exact hb
        have hB := M14.hp b hb'
        show BkOk (tkEnv n t u5) β13 _ b
        refine hB.keep fun hreal i hfi _ => hset i fun e => ?_
        subst e
        simp only [List.mem_cons, List.not_mem_nil, or_false] at hb
        rcases hb with rfl | rfl | rfl | rfl
        · have := fp_one rfl hfi
          have e2 : β13 50 = t.2.1 := (o13 50 (by decide)).trans e50
          exact b3 (e2.symm.trans this.symm)
        · have hz : β13 53 = 0 := hB.1
          exact absurd hz (hreal.resolve_left (by simp [alB, Bk.nilable, Xt.isAl]))
        · rcases M14.may _ hb' rfl hreal _ hfi with q | q
          · exact b3 q.symm
          · omega
        · exact g5 ((fp_one rfl hfi).trans (b13 0 (by decide))).symm
      · refine wp_exit ?_
        show ∃ seen', _
        refine ⟨seen.push t.1.born, tkM_lt (by rw [eT]; exact List.mem_append_right _ (List.mem_cons_self ..)) hns, ?_⟩
        rw [hd5]
        show TkJ w _ g m r clock bs n T (seen.push t.1.born) a14'
        refine J.next K ht hns (actE (fun u => rfl) (b13 0 (by decide)) (b13 40 (by decide)) (Go.Proofs.Ytnmfmjlpfhdgeaa.Md.anyS M14 (fun _ q => q) 62) tk_m10) ?_ ?_ ?_ (fun t' ht' => by rw [hF] at ht'; cases ht')
        · refine ⟨M14.only.os.trans hO4.os, M14.only.tape.trans hO4.tape, M14.only.output.trans hO4.output, ?_, fun i hi hs => ?_⟩
          · show _ ≤ (w13.drew.heap.setIfInBounds m _).size
            rw [Array.size_setIfInBounds]
            exact Nat.le_trans hO4.size M14.only.size
          · rw [hset i fun e => hs (.inr (.inl e)), M14.only.block i (Nat.lt_of_lt_of_le hi hO4.size) fun e => hs (.inr (.inr e))]
            exact hO4.block i hi fun e => hs (.inl e)
        · rw [hset r fun e => g4 e.symm]; exact hr13
        · refine ⟨ents.eraseIdxIfInBounds (tkC n seen A).length, ?_, ?_⟩
          · show (w13.drew.heap.setIfInBounds m _)[m]? = _
            rw [Array.getElem?_setIfInBounds_self_of_lt hml]
          · have hle : ents.toList.length = (tkC n seen T).length := by rw [hents, List.length_map]
            have : (ents.eraseIdxIfInBounds (tkC n seen A).length).toList = ents.toList.eraseIdx (tkC n seen A).length := by
              unfold Array.eraseIdxIfInBounds
              rw [dif_pos (by rw [← Array.length_toList, hle, eC]; simp)]
              exact Array.toList_eraseIdx ..
            rw [this, hents, eC, eC', hF]
            rw [List.map_append, List.map_cons, List.eraseIdx_append_of_length_le (by simp)]
            simp
    · -- it goes on
      have hc : ¬ (den (tkEnv n t u5) (.le (.sub (.il 30) (.iv 213)) (.iv 20))).b = true := by rw [hc]; decide
      rw [t_le] at hc
      change ¬ 30 - t.2.2.1 ≤ n at hc
      have hF : tkF1 n t = some (t.1, t.2.1, (t.2.2.1 + n, t.2.2.2)) := by unfold tkF1; rw [if_pos (by omega)]
      refine wp_skip ?_
      show (Sy.sub [1] (tkX Try.f5)).wp Try.prog _ a13' w13
      have a0 := hE.a0
      have a1 := hE.a1
      have M14 := Go.Proofs.Ytnmfmjlpfhdgeaa.Md.cxTo M13 tkcx9 (cxP ⟨by show (0 : Int) ≤ n ∧ n ≤ 29; omega, by show (0 : Int) ≤ t.2.2.1 ∧ t.2.2.1 ≤ 29; omega, trivial⟩ trivial)
      refine part_wp (B := ⟨tkEnv n t u5, fun i => i = t.2.1, w4, β11, 62⟩) (sp := []) hgd (fun q hq => by cases hq) rfl (r := tkR11 Try.prog Try.f5) rfl tk_run11 ⟨?_, trivial⟩ M14
      intro _ β15 a15' w15 M15
      have M15 : Md (tkEnv n t u5) (fun i => i = t.2.1) w4 β11 62 (lfAt (tkR11 Try.prog Try.f5) 0) β15 a15' w15 := M15
      show ∃ seen', _
      refine ⟨seen.push t.1.born, tkM_lt (by rw [eT]; exact List.mem_append_right _ (List.mem_cons_self ..)) hns, ?_⟩
      refine J.next K ht hns (actE (fun u => rfl) (o11 0 (by decide)) (o11 40 (by decide)) M15 tk_m11) ?_ ?_ ⟨ents, ?_, ?_⟩ (fun t' ht' => ?_)
      · refine ⟨M15.only.os.trans hO4.os, M15.only.tape.trans hO4.tape, M15.only.output.trans hO4.output, Nat.le_trans hO4.size M15.only.size, fun i hi hs => ?_⟩
        rw [M15.only.block i (Nat.lt_of_lt_of_le hi hO4.size) fun e => hs (.inr (.inr e))]
        exact hO4.block i hi fun e => hs (.inl e)
      · exact (M15.only.block r hr4' (fun e => b2 e.symm)).trans hr4
      · exact (M15.only.block m hm4' (fun e => b3 e.symm)).trans hm4
      · rw [hents, eC, eC', hF]
        simp
      · rw [hF] at ht'
        injection ht' with ht'
        subst ht'
        have hB := M15.hp ⟨50, 60, whCa, true, none, .arr (whIk 200)⟩ (by rw [tk_h11]; exact List.mem_cons_self ..)
        have hB : Blk w15 (β15 50) 60 (layV (tkEnv n t u5) (denL (tkEnv n t u5) β15 whCa) (whIk 200)) := hB.1
        rw [show β15 50 = t.2.1 from (M15.old 50 (by decide)).trans e50] at hB
        have W2 : WhL { tkEnv n t u5 with i := fun k => if k = 213 then t.2.2.1 + n else (tkEnv n t u5).i k } 200 (t.2.2.1 + n, t.2.2.2) := ⟨WL.f, WL.i10, WL.i11, WL.b12, rfl, WL.c1, WL.c2⟩
        have := W2.cells β15
        refine Eq.mp (congrArg (Blk w15 t.2.1 60) ?_) hB
        rw [← this]
        rfl
end
end Go.Proofs.Ytnmfmjlpfhdgeaa
/- Fragments: the program's Tick, New, Open: their contracts. -/
namespace Go.Proofs.Ytnmfmjlpfhdgeaa
open Go.RowKit Sy
set_option linter.unusedVariables false
set_option linter.unusedSimpArgs false

section
variable {w : World} {g m r clock : Nat} {bs : List Nat} {es : List Ent} {n : Int} {T : List Tri} {seen : Array Nat}
theorem tkC_none (n : Int) (T : List Tri) : tkC n #[] T = T := by
  unfold tkC
  induction T with
  | nil => rfl
  | cons t T ih =>
    rw [List.filterMap_cons, show tkF n #[] t = some t from if_neg (by simp)]
    exact congrArg (t :: ·) ih
theorem map_getD {α β : Type} (f : α → β) {l : List α} {i : Nat} (d : β) (hi : i < l.length) : (l.map f).getD i d = f l[i] := by
  rw [List.getD_eq_getElem?_getD, List.getElem?_map, List.getElem?_eq_getElem hi]
  rfl
theorem tk_done (K : TkT w g m r clock bs es T) (hn : 0 ≤ n) {w1 w2 : World} {a : Act} (J : TkJ w w1 g m r clock bs n T seen a) (hall : ∀ t ∈ tkC n seen T, t.1.born ∈ seen.toList) (ho : Only (fun i => i = r) w1 w2) : FrGo w w2 g m bs (tkL es n) := by
  obtain ⟨g1, g2, g3, g4, g5⟩ := K.gm
  obtain ⟨nd1, nd2, nd3⟩ := K.nds (n := n) (seen := seen)
  have hes : (tkC n seen T).map (fun t => t.2.2) = tkL es n := by rw [tkC_end hall, tk_es n hn, K.e]
  obtain ⟨ents, hmap, hents⟩ := J.map
  have hsub : ∀ x ∈ (tkC n seen T).map (fun t => t.2.1), x ∈ bs := fun x hx => by
    obtain ⟨t, ht, rfl⟩ := List.mem_map.1 hx
    exact (K.mem ht).1
  have hobj := J.obj.only ho g3
  have hm2 : w2.heap[m]? = some (.map ents clock) := (ho.block m (Array.getElem?_eq_some_iff.1 hmap).1 g4).trans hmap
  refine ⟨(tkC n seen T).map (fun t => t.2.1), ⟨hobj, ?_, ?_, ?_, fun i hi => ?_, K.h.ok.tick n⟩, ⟨ho.os.trans J.only.os, ho.tape.trans J.only.tape, ho.output.trans J.only.output, Nat.le_trans J.only.size ho.size, fun i hi hs => ?_⟩, fun x hx => .inl ?_⟩
  · rw [← hes, ← triR_eq]
    refine ⟨⟨ents, clock, hm2, ?_, ?_⟩, fun q hq => ?_⟩
    · rw [hents, List.map_map]
      unfold triR
      rw [List.map_map]
      refine List.map_congr_left fun x hx => ?_
      obtain ⟨_, _, k1, k2, _⟩ := K.mem hx
      show (x.1.key, x.1.val) = entOf true 4 (enN x.2.2 ++ [ptv x.2.1])
      rw [k1, k2]
      rfl
    · refine ⟨fun x hx => ?_, ?_, ?_⟩
      · rw [hents] at hx
        obtain ⟨t, ht, rfl⟩ := List.mem_map.1 hx
        exact (K.mem ht).2.1
      · rw [hents, List.map_map]; exact nd3
      · rw [hents, List.map_map]
        have : (tkC n seen T).map ((fun x : MapEntry => x.key) ∘ fun t => t.1) = ((tkC n seen T).map fun t => enN t.2.2).map fun k => Value.agg k.toArray := by
          rw [List.map_map]
          exact List.map_congr_left fun x hx => (K.mem hx).2.2.1
        rw [this]
        refine List.Pairwise.map _ (fun a b hab h => hab ?_) nd1
        injection h with h
        simpa using congrArg Array.toList h
    · obtain ⟨x, hx, rfl⟩ := List.mem_map.1 hq
      exact kAll_app (K.mem hx).2.2.2.2 ⟨x.2.1, rfl⟩
  · rw [← hes, List.length_map, List.length_map]
  · rw [List.nodup_cons, List.nodup_cons]
    refine ⟨fun hx => ?_, fun hx => K.h.m_b (hsub _ hx), nd2⟩
    rcases List.mem_cons.1 hx with hx | hx
    · exact g5 hx
    · exact K.h.g_b (hsub _ hx)
  · rw [← hes] at hi ⊢
    rw [List.length_map] at hi
    rw [map_getD _ _ hi, map_getD _ _ hi]
    have hm := List.getElem_mem hi
    exact (J.blk _ hm).only ho (K.ne (K.mem hm).1).2.1
  · have hnew := K.new
    exact (ho.block i (Nat.lt_of_lt_of_le hi J.only.size) (by omega)).trans (J.only.block i hi hs)
  · rcases List.mem_cons.1 hx with rfl | hx
    · exact List.mem_cons_self ..
    · rcases List.mem_cons.1 hx with rfl | hx
      · exact List.mem_cons_of_mem _ (List.mem_cons_self ..)
      · exact List.mem_cons_of_mem _ (List.mem_cons_of_mem _ (hsub x hx))
set_option maxRecDepth 100000 in
set_option maxHeartbeats 2000000 in
/-- Tick. -/
theorem tick_calls (h : FrT w g m bs es) (n0 : -9223372036854775808 ≤ n) (n1 : n ≤ 9223372036854775807) : Calls Try.prog 5 #[.pointer (some ⟨g, 0, none⟩), .int .i64 n] w (RetP fun v w' => v = .int .i64 (tkE n) ∧ FrGo w w' g m bs (tkL es n)) := by
  have h8 : (mpR bs es).length ≤ 8 := by rw [mpR_len h.len]; exact h.ok.l8
  let ρ : Env := { mkEnv0 [] [] [] [] with i := fun _ => n, c := fun _ => mpR bs es }
  have hρ : ρ.good := fun i => rfl
  have hM : Md ρ (fun i => i = m) w (frN g m) 4 tkS (frN g m) ⟨#[], []⟩ w := by
    refine Sy.Md.init ⟨h.obj, h.map, trivial⟩ ⟨⟨fun _ _ => apart.of rfl rfl h.g_m, trivial⟩, trivial, trivial⟩ ⟨fun h => (by cases h), fun _ _ i hi => fp_one rfl hi, trivial⟩ (cxP ⟨?_, ⟨n0, n1⟩, trivial⟩ trivial) rfl
    show (0 : Int) ≤ ((mpR bs es).length : Int) ∧ ((mpR bs es).length : Int) ≤ 8
    omega
  refine calls_pre (B := ⟨ρ, fun i => i = m, w, frN g m, 4⟩) (sp := []) (p := tkP) (xs := tkA) (s := tkS) (r := tkR0 Try.prog Try.f5) hρ (fun q hq => by cases hq) rfl Try.func5 rfl rfl tk_run0 hM ⟨?_, ?_, trivial⟩ rfl
  · intro hpc β a w1 M
    have hlt := hpc.1
    rw [t_lt] at hlt
    change n < 0 at hlt
    refine ret_post (B := ⟨ρ, fun i => i = m, w, frN g m, 4⟩) M (retsB_ok tk_ret0 rfl) ⟨?_, ?_⟩
    · show Value.int .i64 1 = _
      unfold tkE
      rw [if_pos hlt]
    · have hh := tk_hp0
      split at hh
      · rename_i b hf
        have := sameBk_eq hh
        subst this
        have hB : MapT w1 (β 2) nmLv true .ptr (mpR bs es) := (Sy.Md.find M hf).1
        rw [show β 2 = m from M.old 2 (show 2 < 4 by decide)] at hB
        unfold tkL
        rw [if_pos hlt]
        exact h.same M.only hB
      · cases hh
  · intro hpc β a w1 M
    have hge := hpc.1
    rw [t_not, t_lt] at hge
    change ¬ n < 0 at hge
    obtain ⟨id, o, hc, hg1, hp1, hd1⟩ := tk_rgA
    show (Sy.sub tkP (bodyOf Try.f5)).wp Try.prog (ctx Try.prog tkP (bodyOf Try.f5) _) a w1
    rw [hc]
    refine wp_region_list ?_
    show wpList _ _ _ (tkO4 Try.f5 ++ [o]) a w1
    obtain ⟨s1, e⟩ := Prod.mk.inj tk_f4
    obtain ⟨s2, e⟩ := Prod.mk.inj e
    obtain ⟨s3, s4⟩ := Prod.mk.inj e
    refine opsSt_ok (B := ⟨ρ, fun i => i = m, w, frN g m, 4⟩) (sp := []) hρ (fun q hq => by cases hq) tk_s4 (fun β a w1 M => ?_) M
    refine range_op M hg1 hp1 hd1 Try.underlying51 s1 s2 (show 4 ≤ 40 by decide) s3 s4 (by decide) (by decide) fun ents clock w2 β1 hold hL hes hit M5 => ?_
    refine wpList_nil ?_
    show (Sy.sub [1, 1, 0, 1] (bodyOf Try.f5)).wp Try.prog (ctx Try.prog [1, 1, 0] (bodyOf Try.f5) _) _ w2
    rw [tk_loop]
    refine wp_block ?_
    have hβm : β 2 = m := M.old 2 (show 2 < 4 by decide)
    rw [hβm] at hit
    obtain ⟨T, t1, t2, t3, t4⟩ := tri_of h.len hes
    have hsz : w.heap.size ≤ w1.heap.size := M.only.size
    generalize w1.heap.size = r at hL hit M5 hsz
    have K : TkT w g m r clock bs es T := ⟨h, t2, t3, t4, by
      have : T.map (fun t => t.1.born) = ents.toList.map (fun e => e.born) := by rw [← t1, List.map_map]; rfl
      rw [this]; exact hit.nd, fun t ht => hit.old t.1 (by rw [← t1]; exact List.mem_map.2 ⟨t, ht, rfl⟩), hsz⟩
    have b0 : β1 0 = g := M5.old 0 (show 0 < 4 by decide)
    have M5' := Go.Proofs.Ytnmfmjlpfhdgeaa.Md.anyS M5 (fun _ q => q) 42
    obtain ⟨u, β6, M6⟩ := Sy.Md.enter M5' tk_m5 fun u => ⟨fun _ h => (by cases h), fun _ h => (by cases h)⟩
    refine wp_loop_ix (ι := Array Nat) (fun seen a w' => TkJ w w' g m r clock bs n T seen a) (fun seen => tkM seen T) (fun seen a3 w3 J => ?_) #[] ?_
    rotate_left
    · refine ⟨⟨u, M6.act.trans ?_⟩, h.obj.only M5.only h.g_m, hit.it, ⟨ents, hit.map, by rw [tkC_none, t1]⟩, fun t ht => ?_, M5.only.mono fun i _ hi => by rw [hi]; exact List.mem_cons_of_mem _ (List.mem_cons_self ..)⟩
      · exact congrArg (fun l : List Value => (⟨l.toArray, []⟩ : Act)) (tk_tm (ρ' := tkE0 n u) (β' := tkN g m r) ((M6.old 0 (by decide)).trans b0) ((M6.old 40 (by decide)).trans hL) rfl rfl)
      · rw [tkC_none] at ht
        obtain ⟨i, hi, rfl⟩ := List.getElem_of_mem ht
        have hie : i < es.length := by rw [← t3, List.length_map]; exact hi
        have hb := h.blk i hie
        rw [← t2, ← t3, map_getD _ _ hi, map_getD _ _ hi] at hb
        refine hb.only M5.only fun e => h.m_b ?_
        rw [← e, ← t2]
        exact List.mem_map.2 ⟨_, ht, rfl⟩
    refine tk_round K (by omega) n1 J fun hall ρ' a' hg' M7 => ?_
    show (Sy.sub [1, 1, 1] (bodyOf Try.f5)).wp Try.prog _ a' w3
    refine tail_fin (B := ⟨ρ', fun i => i = r, w3, tkN g m r, 42⟩) (sp := []) (lim := 10) (fuel := 400) hg' (fun q hq => by cases hq) tk_end ⟨?_, trivial⟩ M7
    intro _ β8 w8 hH
    refine ⟨?_, tk_done K (by omega) J hall hH.only⟩
    show Value.int .i64 0 = _
    unfold tkE
    rw [if_neg hge]
/-! Open. -/
def opA : List SV := [.one (.c (.ptr 0 0))]
def mpR0 : Bk := ⟨2, 0, [], false, none, .mp nmLv true .ptr (.cv 1)⟩
def opS : Sy.St := ⟨[], [tbB, mpR0], ⟨[⟨tlen (.cv 1), 0, 8⟩], []⟩, 40⟩
set_option maxRecDepth 100000 in
theorem op_run : smR Try.prog Try.f10 4 (run Try.prog [] 10 400 4 (.code (bodyOf Try.f10)) (enterS Try.f10 opA opS)) = some [.ret (.one (.c (.int .i64 (tlen (.cv 1))))) [tbB, mpR0] []] := by kernel_rfl
theorem open_calls (h : FrT w g m bs es) : Calls Try.prog 10 #[.pointer (some ⟨g, 0, none⟩)] w (RetP fun v w' => v = .int .i64 (es.length : Int) ∧ Below w.heap.size w w') := by
  have h8 : (mpR bs es).length ≤ 8 := by rw [mpR_len h.len]; exact h.ok.l8
  let ρ : Env := { mkEnv0 [] [] [] [] with c := fun _ => mpR bs es }
  have hM : Md ρ (fun _ => False) w (frN g m) 4 opS (frN g m) ⟨#[], []⟩ w := by
    refine Sy.Md.init ⟨h.obj, h.map, trivial⟩ ⟨⟨fun _ _ => apart.of rfl rfl h.g_m, trivial⟩, trivial, trivial⟩ ⟨fun h => (by cases h), fun h => (by cases h), trivial⟩ (cxP ⟨?_, trivial⟩ trivial) rfl
    show (0 : Int) ≤ ((mpR bs es).length : Int) ∧ ((mpR bs es).length : Int) ≤ 8
    omega
  refine calls_sm (B := ⟨ρ, fun _ => False, w, frN g m, 4⟩) (sp := []) (fun i => rfl) (fun q hq => by cases hq) 10 400 Try.func10 rfl opA opS _ 4 rfl op_run hM (R := fun v w' => v = .int .i64 (es.length : Int) ∧ Below w.heap.size w w') ⟨?_, trivial⟩ rfl
  intro _ β w2 hH
  refine ⟨?_, Sy.Only.below_all hH.only⟩
  show Value.int .i64 (((mpR bs es).length : Nat) : Int) = _
  rw [mpR_len h.len]
end
/-! New. -/
set_option maxRecDepth 100000 in
set_option maxHeartbeats 1000000 in
theorem new_calls (w : World) : Calls Try.prog 4 #[] w fun e w' => e = .returned (.pointer (some ⟨w.heap.size + 1, 0, none⟩)) ∧ FrT w' (w.heap.size + 1) w.heap.size [] [] ∧ Below w.heap.size w w' := by
  have key : Calls Try.prog 4 #[] w fun e w' => e = .returned (.pointer (some ⟨w.heap.size + 1, 0, none⟩)) ∧ w' = (w.alloc (.map #[] 0)).alloc (.cells #[.map (some w.heap.size)] 53) := by
    have hmk : ∀ w : World, (Instr.makeMap 51 none).run Try.prog w = .ok (.map (some w.heap.size)) (w.alloc (.map #[] 0)) := fun w => by simp [Instr.makeMap, Result.andThen]
    go_enter Try.func4, Try.ntmps4
    go_wp2_with fail
    go_ret
    exact ⟨rfl, rfl⟩
  refine key.mono ?_
  rintro e w' ⟨rfl, rfl⟩
  refine ⟨rfl, ⟨?_, ⟨⟨#[], 0, ?_, rfl, Go.MapKept.stamped_empty 0⟩, fun r hr => by cases hr⟩, rfl, by simp, fun i hi => by simp at hi, FOk.nil⟩, ((Below.refl _ w).alloc (Nat.le_refl _) _).alloc (by simp) _⟩
  · show _ = some (Obj.cells #[.map (some w.heap.size)] 53 (0, 0))
    show ((w.heap.push _).push _)[w.heap.size + 1]? = _
    rw [show w.heap.size + 1 = (w.heap.push (Obj.map #[] 0)).size by simp]
    exact Array.getElem?_push_size
  · show ((w.heap.push _).push _)[w.heap.size]? = _
    simp [Array.getElem?_push]
end Go.Proofs.Ytnmfmjlpfhdgeaa
/- Fragments: the document's fights. -/
namespace Go.Proofs.Ytnmfmjlpfhdgeaa
open Go.RowKit Sy
set_option linter.unusedVariables false
set_option linter.unusedSimpArgs false
def fiA : List SV := [.one (.agg (pkC 20)), .one (.agg (pkC 30))]
def fiBs : List Bd := [⟨.iv 27, 0, 500⟩, ⟨.len (.sv 28), 0, 4000⟩, ⟨.iv 37, 0, 500⟩, ⟨.len (.sv 38), 0, 4000⟩]
def fiP : List Nat := [1, 1, 0, 1, 2]
def fiS : Sy.St := ⟨[], [], ⟨fiBs, []⟩, 50⟩
def fiR0 (P : Program) (fn : Func) : Rs := run P [] 10 400 50 (.code (pre fiP (bodyOf fn))) (enterS fn fiA fiS)
def fiT (P : Program) (fn : Func) : Sy.St := tplS (lfAt (fiR0 P fn) 0) (lpBody (Sy.sub fiP (bodyOf fn))) [(23, .one (.c (.int .i64 (.iv 40))))] [] ⟨⟨.iv 40, 0, 4000⟩ :: fiBs, [.le (.iv 40) (.len (.sv 38))]⟩ 70
def fiR1 (P : Program) (fn : Func) : Rs := run P [] 10 400 50 (.code (lpBody (Sy.sub fiP (bodyOf fn)))) (fiT P fn)
def fiR2 (P : Program) (fn : Func) : Rs := run P [] 10 400 50 (.code (aft (.exit 0) fiP (bodyOf fn))) (lfAt (fiR1 P fn) 5)
def fiBk : List As := [.i 40 (.add (.iv 40) (.il 1))]
def fiE : List Tm := [.lt (.iv 40) (.len (.sv 38)), .le (.iv 40) (.len (.sv 38))]
set_option maxRecDepth 100000 in
theorem fi_run0 : shR 50 none (fiR0 Try.prog Try.f19) = some [.out 0 .normal []] := by kernel_rfl
set_option maxRecDepth 100000 in
theorem fi_m : (matchS 50 (fiT Try.prog Try.f19) (lfAt (fiR0 Try.prog Try.f19) 0)).map noU = some [.i 40 (.il 0)] := by kernel_rfl
set_option maxRecDepth 100000 in
theorem fi_cx : (fiT Try.prog Try.f19).cx = ⟨⟨.iv 40, 0, 4000⟩ :: fiBs, [.le (.iv 40) (.len (.sv 38))]⟩ := by kernel_rfl
set_option maxRecDepth 100000 in
theorem fi_run1 : shR 50 (some (fiT Try.prog Try.f19)) (fiR1 Try.prog Try.f19) = some [.must (.lt (.sub (.add (.mul (.il 8) (.iv 37)) (.iv 40)) (.mul (.il 8) (.iv 27))) (.len (.sv 28))) (.lt (.add (.mul (.il 8) (.iv 37)) (.iv 40)) (.add (.mul (.il 8) (.iv 27)) (.len (.sv 28))) :: .le (.mul (.il 8) (.iv 27)) (.add (.mul (.il 8) (.iv 37)) (.iv 40)) :: fiE),
  .out 1 .ret (.not (.eq (.byte (.sv 28) (.sub (.add (.mul (.il 8) (.iv 37)) (.iv 40)) (.mul (.il 8) (.iv 27)))) (.byte (.sv 38) (.iv 40))) :: .lt (.sub (.add (.mul (.il 8) (.iv 37)) (.iv 40)) (.mul (.il 8) (.iv 27))) (.len (.sv 28)) :: .lt (.add (.mul (.il 8) (.iv 37)) (.iv 40)) (.add (.mul (.il 8) (.iv 27)) (.len (.sv 28))) :: .le (.mul (.il 8) (.iv 27)) (.add (.mul (.il 8) (.iv 37)) (.iv 40)) :: fiE),
  .back fiBk (.eq (.byte (.sv 28) (.sub (.add (.mul (.il 8) (.iv 37)) (.iv 40)) (.mul (.il 8) (.iv 27)))) (.byte (.sv 38) (.iv 40)) :: .lt (.sub (.add (.mul (.il 8) (.iv 37)) (.iv 40)) (.mul (.il 8) (.iv 27))) (.len (.sv 28)) :: .lt (.add (.mul (.il 8) (.iv 37)) (.iv 40)) (.add (.mul (.il 8) (.iv 27)) (.len (.sv 28))) :: .le (.mul (.il 8) (.iv 27)) (.add (.mul (.il 8) (.iv 37)) (.iv 40)) :: fiE),
  .back fiBk (.not (.lt (.add (.mul (.il 8) (.iv 37)) (.iv 40)) (.add (.mul (.il 8) (.iv 27)) (.len (.sv 28)))) :: .le (.mul (.il 8) (.iv 27)) (.add (.mul (.il 8) (.iv 37)) (.iv 40)) :: fiE),
  .back fiBk (.not (.le (.mul (.il 8) (.iv 27)) (.add (.mul (.il 8) (.iv 37)) (.iv 40))) :: fiE),
  .out 5 (.exit 0) [.not (.lt (.iv 40) (.len (.sv 38))), .le (.iv 40) (.len (.sv 38))]] := by kernel_rfl
set_option maxRecDepth 100000 in
theorem fi_ret1 : retsB Try.prog Try.f19 (fiR1 Try.prog Try.f19) (.one (.c (.bool (.bl true)))) [1] = true := by kernel_rfl
def fiX : List Tm := [.not (.lt (.iv 40) (.len (.sv 38))), .le (.iv 40) (.len (.sv 38))]
set_option maxRecDepth 100000 in
theorem fi_run2 : smR Try.prog Try.f19 50 (fiR2 Try.prog Try.f19) = some [.ret (.one (.c (.bool (.lt (.add (.mul (.il 8) (.iv 37)) (.len (.sv 38))) (.add (.mul (.il 8) (.iv 27)) (.len (.sv 28))))))) [] (.not (.bv 36) :: .not (.lt (.add (.mul (.il 8) (.iv 27)) (.len (.sv 28))) (.add (.mul (.il 8) (.iv 37)) (.len (.sv 38)))) :: .not (.bv 26) :: fiX),
  .ret (.one (.c (.bool (.bl false)))) [] (.bv 36 :: .not (.lt (.add (.mul (.il 8) (.iv 27)) (.len (.sv 28))) (.add (.mul (.il 8) (.iv 37)) (.len (.sv 38)))) :: .not (.bv 26) :: fiX),
  .ret (.one (.c (.bool (.bl true)))) [] (.lt (.add (.mul (.il 8) (.iv 27)) (.len (.sv 28))) (.add (.mul (.il 8) (.iv 37)) (.len (.sv 38))) :: .not (.bv 26) :: fiX),
  .ret (.one (.c (.bool (.lt (.add (.mul (.il 8) (.iv 37)) (.len (.sv 38))) (.add (.mul (.il 8) (.iv 27)) (.len (.sv 28))))))) [] (.not (.bv 36) :: .bv 26 :: fiX),
  .ret (.one (.c (.bool (.bl false)))) [] (.bv 36 :: .bv 26 :: fiX)] := by kernel_rfl
def fiEnv (p q : List Value) : Env := { mkEnv0 [] [] [] [] with
  i := fun n => if n < 30 then intAt p (n - 20) else if n < 40 then intAt q (n - 30) else 0
  b := fun n => if n < 30 then boolAt p (n - 20) else boolAt q (n - 30)
  s := fun n => if n < 30 then strAt p (n - 20) else strAt q (n - 30) }
structure FiI (p q : List Value) (ρ : Env) : Prop where
  good : ρ.good
  p20 : ∀ β, denL ρ β (pkC 20) = p
  q30 : ∀ β, denL ρ β (pkC 30) = q
structure FiJ (p q : List Value) (ρ : Env) : Prop extends FiI p q ρ where
  h0 : 0 ≤ ρ.i 40
  h1 : ρ.i 40 ≤ ((pBody q).size : Int)
  no : ∀ j : Int, pFrom q ≤ j → j < pFrom q + ρ.i 40 → cov j p = true → pByte p j = pByte q j
section
variable {p q : List Value} {ρ : Env} {w : World}
theorem FiI.bds (I : FiI p q ρ) (hp : GRow p) (hq : GRow q) : bdsP ρ fiBs := by
  obtain ⟨_, a7, a8⟩ := pk_let hp.ok I.p20
  obtain ⟨_, b7, b8⟩ := pk_let hq.ok I.q30
  have e1 : pTo p = 8 * pOff p + ((pBody p).size : Int) := rfl
  have e2 : pTo q = 8 * pOff q + ((pBody q).size : Int) := rfl
  have := hp.o0
  have := hp.t1
  have := hq.o0
  have := hq.t1
  refine ⟨?_, ?_, ?_, ?_, trivial⟩
  · show (0 : Int) ≤ ρ.i 27 ∧ ρ.i 27 ≤ 500
    rw [a7]; omega
  · show (0 : Int) ≤ ((ρ.s 28).size : Int) ∧ ((ρ.s 28).size : Int) ≤ 4000
    rw [a8]; omega
  · show (0 : Int) ≤ ρ.i 37 ∧ ρ.i 37 ≤ 500
    rw [b7]; omega
  · show (0 : Int) ≤ ((ρ.s 38).size : Int) ∧ ((ρ.s 38).size : Int) ≤ 4000
    rw [b8]; omega
theorem FiJ.cx (I : FiJ p q ρ) (hp : GRow p) (hq : GRow q) : (fiT Try.prog Try.f19).cx.ok ρ := by
  rw [fi_cx]
  obtain ⟨_, b7, b8⟩ := pk_let hq.ok I.q30
  have h0 := I.h0
  have h1 := I.h1
  have e2 : pTo q = 8 * pOff q + ((pBody q).size : Int) := rfl
  have := hq.o0
  have := hq.t1
  refine cxP ⟨by show (0 : Int) ≤ ρ.i 40 ∧ ρ.i 40 ≤ 4000; omega, I.toFiI.bds hp hq⟩ ⟨?_, trivial⟩
  rw [t_le]
  show ρ.i 40 ≤ ((ρ.s 38).size : Int)
  rw [b8]; exact h1
set_option maxRecDepth 100000 in
set_option maxHeartbeats 1000000 in
theorem fights_calls (hp : GRow p) (hq : GRow q) : Calls Try.prog 19 #[.agg p.toArray, .agg q.toArray] w (RetP fun v w' => v = .bool (fgt p q) ∧ Below w.heap.size w w') := by
  have I : FiI p q (fiEnv p q) := ⟨fun i => rfl, fun β => pk_den (h := 20) hp.ok rfl rfl rfl rfl rfl rfl rfl rfl rfl β, fun β => pk_den (h := 30) hq.ok rfl rfl rfl rfl rfl rfl rfl rfl rfl β⟩
  have z40 : (fiEnv p q).i 40 = 0 := rfl
  generalize fiEnv p q = ρ at I z40
  have hM : Md ρ (fun _ => False) w (fun _ => 0) 50 fiS (fun _ => 0) ⟨#[], []⟩ w := Sy.Md.start (bdsP_ok (I.bds hp hq) |> fun h => ⟨h, fun t ht => by cases ht⟩)
  refine calls_pre (B := ⟨ρ, fun _ => False, w, fun _ => 0, 50⟩) (sp := []) (p := fiP) (xs := fiA) (s := fiS) (r := fiR0 Try.prog Try.f19) I.good (fun q hq => by cases hq) rfl Try.func19 rfl rfl fi_run0 hM ⟨?_, trivial⟩ (by
    show _ = #[Value.agg (denL ρ _ (pkC 20)).toArray, .agg (denL ρ _ (pkC 30)).toArray]
    rw [I.p20, I.q30])
  intro _ β a w1 M
  have J : ∀ u, FiJ p q { ρ.sub β [.i 40 (.il 0)] with u := u } := fun u => ⟨⟨I.good, I.p20, I.q30⟩, Int.le_refl _, by show (0 : Int) ≤ _; omega, fun j j0 j1 => by
    change j < pFrom q + 0 at j1
    omega⟩
  obtain ⟨u, β', M'⟩ := Sy.Md.enter M fi_m fun u => (J u).cx hp hq
  show (Sy.sub fiP (bodyOf Try.f19)).wp Try.prog (ctx Try.prog fiP (bodyOf Try.f19) _) a w1
  rw [show Sy.sub fiP (bodyOf Try.f19) = .loop (lpBody (Sy.sub fiP (bodyOf Try.f19))) by kernel_rfl]
  refine loop_wp (S := fun _ => False) (w0 := w) (β0 := fun _ => 0) (r := fiR1 Try.prog Try.f19) rfl fi_run1 (FiJ p q) (fun ρ => 4000 - (ρ.i 40).toNat) (fun ρ I => I.good) (fun ρ I q hq => by cases hq) (fun ρ I => I.cx hp hq) ?_ (J u) M'
  intro ρ I
  obtain ⟨a6, a7, a8⟩ := pk_let hp.ok I.p20
  obtain ⟨b6, b7, b8⟩ := pk_let hq.ok I.q30
  have h0 := I.h0
  have h1 := I.h1
  have e1 : pTo p = 8 * pOff p + ((pBody p).size : Int) := rfl
  have e2 : pTo q = 8 * pOff q + ((pBody q).size : Int) := rfl
  have f1 : pFrom p = 8 * pOff p := rfl
  have f2 : pFrom q = 8 * pOff q := rfl
  have t1 := hq.t1
  have o1 := hq.o0
  have dFA : (den ρ (.mul (.il 8) (.iv 27))).i = pFrom p := by show 8 * ρ.i 27 = _; rw [a7]; rfl
  have dTA : (den ρ (.add (.mul (.il 8) (.iv 27)) (.len (.sv 28)))).i = pTo p := by show 8 * ρ.i 27 + ((ρ.s 28).size : Int) = _; rw [a7, a8]; rfl
  have dTB : (den ρ (.add (.mul (.il 8) (.iv 37)) (.len (.sv 38)))).i = pTo q := by show 8 * ρ.i 37 + ((ρ.s 38).size : Int) = _; rw [b7, b8]; rfl
  have dKK : (den ρ (.add (.mul (.il 8) (.iv 37)) (.iv 40))).i = pFrom q + ρ.i 40 := by show 8 * ρ.i 37 + ρ.i 40 = _; rw [b7]; rfl
  have dBA : (den ρ (.byte (.sv 28) (.sub (.add (.mul (.il 8) (.iv 37)) (.iv 40)) (.mul (.il 8) (.iv 27))))).i = pByte p (pFrom q + ρ.i 40) := by
    show Sy.byteOf (ρ.s 28) ((8 * ρ.i 37 + ρ.i 40) - 8 * ρ.i 27) = _
    rw [a8, b7, a7]; rfl
  have dBB : (den ρ (.byte (.sv 38) (.iv 40))).i = pByte q (pFrom q + ρ.i 40) := by
    show Sy.byteOf (ρ.s 38) (ρ.i 40) = Sy.byteOf (pBody q) ((pFrom q + ρ.i 40) - pFrom q)
    rw [b8]; congr 1; omega
  have dL : ((den ρ (.sv 28)).s.size : Int) = ((pBody p).size : Int) := by show ((ρ.s 28).size : Int) = _; rw [a8]
  have dL2 : ((den ρ (.sv 38)).s.size : Int) = ((pBody q).size : Int) := by show ((ρ.s 38).size : Int) = _; rw [b8]
  have back : ρ.i 40 < ((pBody q).size : Int) → (cov (pFrom q + ρ.i 40) p = true → pByte p (pFrom q + ρ.i 40) = pByte q (pFrom q + ρ.i 40)) → ∀ (β : Bn) u, FiJ p q { ρ.sub β fiBk with u := u } ∧ (4000 - (({ ρ.sub β fiBk with u := u } : Env).i 40).toNat) < 4000 - (ρ.i 40).toNat := fun hlt hno β u => by
    refine ⟨⟨⟨I.good, I.p20, I.q30⟩, ?_, ?_, ?_⟩, ?_⟩
    · show 0 ≤ ρ.i 40 + 1
      omega
    · show ρ.i 40 + 1 ≤ _
      omega
    · show ∀ j : Int, pFrom q ≤ j → j < pFrom q + (ρ.i 40 + 1) → _
      intro j j0 j1 hc
      by_cases e : j = pFrom q + ρ.i 40
      · rw [e] at hc ⊢; exact hno hc
      · exact I.no j j0 (by omega) hc
    · show 4000 - (ρ.i 40 + 1).toNat < 4000 - (ρ.i 40).toNat
      omega
  refine ⟨?_, ?_, ?_, ?_, ?_, ?_, trivial⟩
  · intro hpc
    have c1 := hpc.1
    have c2 := hpc.2.1
    rw [t_lt, dKK, dTA] at c1
    rw [t_le, dFA, dKK] at c2
    rw [t_lt, i_sub, dKK, dFA, i_len, dL]
    omega
  · intro hpc β a w' M
    have c0 := hpc.1
    have c1 := hpc.2.2.1
    have c2 := hpc.2.2.2.1
    have c3 := hpc.2.2.2.2.1
    rw [t_not, t_eq, dBA, dBB] at c0
    rw [t_lt, dKK, dTA] at c1
    rw [t_le, dFA, dKK] at c2
    rw [t_lt, i_len, dL2] at c3
    change ρ.i 40 < _ at c3
    refine ctx_ret (P := Try.prog) fiP (bodyOf Try.f19) _ (ret_post (B := ⟨ρ, fun _ => False, w, fun _ => 0, 50⟩) M (retsB_ok fi_ret1 rfl) ⟨?_, Sy.Only.below_all M.only⟩)
    show Value.bool true = _
    unfold fgt
    rw [ftB_yes hp (cov_iff.2 ⟨c2, c1⟩) (cov_iff.2 ⟨by omega, by omega⟩) c0]
    rfl
  · intro hpc
    have c0 := hpc.1
    have c3 := hpc.2.2.2.2.1
    rw [t_eq, dBA, dBB] at c0
    rw [t_lt, i_len, dL2] at c3
    exact back c3 fun _ => c0
  · intro hpc
    have c0 := hpc.1
    have c3 := hpc.2.2.1
    rw [t_not, t_lt, dKK, dTA] at c0
    rw [t_lt, i_len, dL2] at c3
    exact back c3 fun e => absurd (cov_iff.1 e).2 c0
  · intro hpc
    have c0 := hpc.1
    have c3 := hpc.2.1
    rw [t_not, t_le, dFA, dKK] at c0
    rw [t_lt, i_len, dL2] at c3
    exact back c3 fun e => absurd (cov_iff.1 e).1 c0
  · intro hpc β a w' M
    have c3 := hpc.1
    rw [t_not, t_lt, i_len, dL2] at c3
    change ¬ ρ.i 40 < _ at c3
    have hB : ftB p q = false := by
      cases e : ftB p q with
      | false => rfl
      | true =>
        unfold ftB at e
        rw [List.any_eq_true] at e
        obtain ⟨j, _, e⟩ := e
        simp only [Bool.and_eq_true, Bool.not_eq_true', decide_eq_false_iff_not] at e
        obtain ⟨c1, c2⟩ := cov_iff.1 e.2.1
        exact absurd (I.no j c1 (by omega) e.1) e.2.2
    have hf : ∀ b : Bool, (b = true ↔ (pMore p = false ∧ pTo p < pTo q) ∨ (pMore q = false ∧ pTo q < pTo p)) → Value.bool b = .bool (fgt p q) := fun b hb => by
      unfold fgt
      rw [hB, Bool.false_or]
      congr 1
      cases e : ftE p q with
      | true => exact hb.2 (ftE_iff.1 e)
      | false =>
        cases b with
        | false => rfl
        | true => rw [ftE_iff.2 (hb.1 rfl)] at e; cases e
    refine aft_fin (B := ⟨ρ, fun _ => False, w, fun _ => 0, 50⟩) I.good (fun q hq => by cases hq) rfl (.exit 0) fi_run2 ⟨?_, ?_, ?_, ?_, ?_, trivial⟩ M
    all_goals
      intro hpc β2 w2 hH
      replace hpc : pcs ρ _ := hpc
      refine ⟨?_, Sy.Only.below_all hH.only⟩
      simp only [pcs, t_lt, t_not, t_bv, dTA, dTB, a6, b6, Bool.not_eq_true] at hpc
    · refine hf (decide _) ?_
      rw [decide_eq_true_eq, dTA, dTB, hpc.1, hpc.2.2.1]
      simp only [true_and]
      omega
    · refine hf false ?_
      rw [hpc.1, hpc.2.2.1]
      simp only [true_and, Bool.true_eq_false, false_and, or_false, Bool.false_eq_true, false_iff]
      omega
    · refine hf true ?_
      rw [hpc.2.1]
      simp only [true_and, true_iff]
      exact .inl hpc.1
    · refine hf (decide _) ?_
      rw [decide_eq_true_eq, dTA, dTB, hpc.1, hpc.2.1]
      simp only [true_and, Bool.true_eq_false, false_and, false_or]
    · refine hf false ?_
      rw [hpc.1, hpc.2.1]
      simp
end
end Go.Proofs.Ytnmfmjlpfhdgeaa
