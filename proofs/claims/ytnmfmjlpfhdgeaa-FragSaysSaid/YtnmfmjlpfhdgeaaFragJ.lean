/- Fragments: the document's In: its contract. -/
import Derived.Test.YtnmfmjlpfhdgeaaFragI
namespace Go.Proofs.Ytnmfmjlpfhdgeaa
open Go.RowKit Sy
set_option linter.unusedVariables false
set_option linter.unusedSimpArgs false

set_option maxRecDepth 100000 in
theorem rf_hp7C : (hasBk (lfAt (rR7 Try.prog Try.f9 cx7C) 0) (uB 2 (tlen (.cv 0))) && hasBk (lfAt (rR7 Try.prog Try.f9 cx7C) 0) (loB 2 (.cv 0))) = true := by kernel_rfl
set_option maxRecDepth 100000 in
theorem rf_mem8 : (rT8 (.iv 41)).hp = bx4 ++ [uB 108 (.iv 41), loB 108 (.cv 0)] := by kernel_rfl
theorem gD_erase {α : Type} (l : List α) (k i : Nat) (d : α) : (l.eraseIdx k).getD i d = if i < k then l.getD i d else l.getD (i + 1) d := by
  rw [List.getD_eq_getElem?_getD, List.getElem?_eraseIdx]
  split <;> rw [List.getD_eq_getElem?_getD]
theorem gD_set {α : Type} (l : List α) {k : Nat} (i : Nat) (x d : α) (hk : k < l.length) : (l.set k x).getD i d = if k = i then x else l.getD i d := by
  rw [List.getD_eq_getElem?_getD, List.getElem?_set]
  split
  · rename_i e
    subst e
    first | rfl | (rw [if_pos hk]; rfl)
  · rw [List.getD_eq_getElem?_getD]
theorem gD_snoc {α : Type} (l : List α) (i : Nat) (x d : α) (hi : i < l.length + 1) : (l ++ [x]).getD i d = if i < l.length then l.getD i d else x := by
  rw [List.getD_eq_getElem?_getD, List.getElem?_append]
  split
  · rw [List.getD_eq_getElem?_getD]
  · rw [show i - l.length = 0 by omega]
    rfl
section
variable {p : List Value} {ls : List (Nat × Nat)} {es : List Ent} {ρ : Env} {w w1 w' : World} {u a c : Nat} {β0 β : Bn} {A : Act} {R : Value → World → Prop}
theorem rf_go (h : RfM w u a c ls es) {g cap : Nat} {ls' : List (Nat × Nat)} {es' : List Ent} (ho : Only (rfW u a c) w w') (hb : Blk w' u 28 [sltV g cap (rfR ls' es').length]) (ht : RowT w' g cap 64 rLv (rfR ls' es')) (hm : cap ≠ 0 → rfW u a c g ∨ w.heap.size ≤ g) (hl : ls'.length = es'.length)
    (hr : ∀ i, i < es'.length → RowT w' (ls'.getD i (0, 0)).1 (ls'.getD i (0, 0)).2 35 pkLv (es'.getD i (0, [])).2) (hx : ∀ x ∈ ls', x.2 ≠ 0 → x ∈ ls ∨ rfW u a c x.1 ∨ w.heap.size ≤ x.1) : RfGo w w' u a c ls es' := by
  have hW : ∀ i, rfW u a c i → i ∈ rfF u a c ls := fun i hi => by
    rcases hi with rfl | ⟨hc, rfl⟩
    · exact rfF_u ..
    · exact rfF_a hc
  rw [rfR_len hl] at hb
  refine ⟨g, cap, ls', ⟨hb, ht, hl, hr⟩, ho.mono fun i _ hi => hW i hi, fun i hi => ?_⟩
  rcases rfF_mem hi with rfl | ⟨hc, rfl⟩ | ⟨x, hx', h0, rfl⟩
  · exact .inl (rfF_u ..)
  · exact (hm hc).imp (hW _) id
  · rcases hx x hx' h0 with q | q | q
    · exact .inl (rfF_l q h0)
    · exact .inl (hW _ q)
    · exact .inr q
theorem rf_same (h : RfM w u a c ls es) (ho : Only (rfW u a c) w w') (hb : Blk w' u 28 [sltV a c es.length]) (ht : RowT w' a c 64 rLv (rfR ls es)) : RfGo w w' u a c ls es :=
  rf_go h ho (by rw [rfR_len h.len]; exact hb) ht (fun hc => .inl (.inr ⟨hc, rfl⟩)) h.len (fun i hi => rf_row h ho hi) fun x hx _ => .inl hx
theorem rf_gone (h : RfM w u a c ls es) {g cap k : Nat} (hk : k < es.length) (ho : Only (rfW u a c) w w') (hb : Blk w' u 28 [sltV g cap ((rfR ls es).eraseIdx k).length]) (ht : RowT w' g cap 64 rLv ((rfR ls es).eraseIdx k)) (hm : cap ≠ 0 → rfW u a c g ∨ w.heap.size ≤ g) : RfGo w w' u a c ls (es.eraseIdx k) := by
  rw [rfR_erase] at hb ht
  have hl := h.len
  refine rf_go h ho hb ht hm (by rw [List.length_eraseIdx_of_lt hk, List.length_eraseIdx_of_lt (by omega), hl]) (fun i hi => ?_) fun x hx _ => .inl (List.mem_of_mem_eraseIdx hx)
  rw [List.length_eraseIdx_of_lt hk] at hi
  rw [gD_erase, gD_erase]
  split
  · exact rf_row h ho (by omega)
  · exact rf_row h ho (by omega)
theorem rf_ok (h : RfM w u a c ls es) : ∀ r ∈ rfR ls es, kAll rLv r := h.tab.ok
theorem RfH.toA (H : RfH p ls es ρ) {l : Rws} {k : Nat} (hl : lOf p es = l) (h40 : ρ.i 40 = (k : Int)) : RfA p l (rfR ls es) k ρ := ⟨H.good, H.p20, H.c0, by rw [← hl]; exact H.c3, h40, by rw [← hl]; exact H.f61, H.f62⟩
/-- The frame behind the place where a new one is made. -/
theorem rf_to8 {S : Nat → Prop} {T : Rws} (h0 : ρ.c 0 = T) (h41 : ρ.i 41 = (T.length : Int)) (hu : β0 0 = u) (hcx : cx8.ok ρ) (M : Md ρ S w β0 46 { rT8 (.iv 41) with cx := ⟨[], []⟩ } β A w1) : β 0 = u ∧ Md ρ S w β 130 (rT8 (tlen (.cv 0))) β A w1 := by
  refine ⟨(M.old 0 (by decide)).trans hu, ?_⟩
  have hmem : uB 108 (.iv 41) ∈ (rT8 (.iv 41)).hp := by
    rw [rf_mem8]
    exact List.mem_append_right _ (List.mem_cons_self ..)
  have hB : Blk w1 (β 0) 28 [sltZ (β 108) (β 109) 2 0 (ρ.i 41).toNat 0] := M.hp (uB 108 (.iv 41)) hmem
  have M1 := Go.Proofs.Ytnmfmjlpfhdgeaa.Md.reBk M (b := uB 108 (.iv 41)) (b' := uB 108 (tlen (.cv 0))) hmem rfl (fun _ => rfl) rfl rfl rfl rfl (by
    show Blk w1 (β 0) 28 [sltZ (β 108) (β 109) 2 0 ((ρ.c 0).length : Int).toNat 0]
    rw [h0, ← h41]
    exact hB)
  exact Go.Proofs.Ytnmfmjlpfhdgeaa.Md.anyS (Go.Proofs.Ytnmfmjlpfhdgeaa.Md.cxTo M1 cx8 hcx) (fun _ q => q) 130
set_option maxRecDepth 100000 in
set_option maxHeartbeats 4000000 in
/-- From behind the scan on. -/
theorem rf_from7 (h : RfM w u a c ls es) (hok : FOk es) (hb : ∀ e ∈ es, e.2.length < 1099511627776) (hp : TbP p) {k : Nat} (H : RfH p ls es ρ) (h40 : ρ.i 40 = (k : Int)) (hk : (ixN (nameOf p) es = some k) ∨ (ixN (nameOf p) es = none ∧ k = es.length))
    (M : Md ρ (rfW u a c) w (rfN u a c) 46 { rT1 with cx := ⟨[], []⟩ } β A w1) : (Code.seq (rC7 Try.f9) (rC8 Try.f9)).wp Try.prog (bodyPost Try.prog Try.f9 (RetP fun v w' => v = ansV (tbA es p) ∧ RfGo w w' u a c ls (tbA es p).es)) A w1 := by
  have hl := h.len
  have h8 := hok.l8
  have hlen := H.len hl
  have hB := tb_bds hp H.p20
  refine wp_seq ?_
  rcases hk with hix | ⟨hix, rfl⟩
  · obtain ⟨hkl, hN⟩ := ixN_some hix
    have hE := hok.ok _ (List.getElem_mem hkl)
    rw [← getD_at hkl] at hE
    have hbE : (es.getD k (0, [])).2.length < 1099511627776 := by
      rw [getD_at hkl]; exact hb _ (List.getElem_mem hkl)
    have hlo : lOf p es = (es.getD k (0, [])).2 := by unfold lOf; rw [hix]
    have hcx : cx7A.ok ρ := by
      refine cxP ⟨by show (0 : Int) ≤ ρ.i 40 ∧ ρ.i 40 ≤ 7; omega, ?_, hB⟩ ⟨?_, trivial⟩
      · show (0 : Int) ≤ ((ρ.c 0).length : Int) ∧ ((ρ.c 0).length : Int) ≤ 8
        omega
      · rw [t_not, t_eq]
        show ¬ ρ.i 40 = ((ρ.c 0).length : Int)
        omega
    refine part_wp (B := ⟨ρ, rfW u a c, w, rfN u a c, 46⟩) (sp := []) H.good (fun q hq => by cases hq) rfl (r := rR7 Try.prog Try.f9 cx7A) rfl rf_run7A ⟨?_, trivial⟩ (Go.Proofs.Ytnmfmjlpfhdgeaa.Md.cxTo M cx7A hcx)
    intro _ β' A' w2 M'
    show (rC8 Try.f9).wp Try.prog _ A' w2
    obtain ⟨v, β4, M4⟩ := Sy.Md.enter M' rf_m7A fun u => ⟨fun _ h => (by cases h), fun _ h => (by cases h)⟩
    have E : RfA p (es.getD k (0, [])).2 (rfR ls es) k { ρ.sub β' [.i 41 (tlen (.cv 0))] with u := v } := ⟨H.good, H.p20, H.c0, by rw [← hlo]; exact H.c3, h40, by rw [← hlo]; exact H.f61, H.f62⟩
    have Y : RfY p (es.getD k (0, [])).2 (rfR ls es) k := ⟨hp, hE.gl, hbE, by rw [rfR_len hl]; exact hkl, by rw [rfR_len hl]; exact h8, h.tab.ok⟩
    have h41 : ({ ρ.sub β' [.i 41 (tlen (.cv 0))] with u := v } : Env).i 41 = ((rfR ls es).length : Int) := by
      show ((ρ.c 0).length : Int) = _
      rw [H.c0]
    have hcx8 : cx8.ok { ρ.sub β' [.i 41 (tlen (.cv 0))] with u := v } := by
      refine cxP ⟨by show (0 : Int) ≤ ρ.i 40 ∧ ρ.i 40 ≤ 7; omega, ?_, hB⟩ (E.lt Y)
      show (1 : Int) ≤ ((ρ.c 0).length : Int) ∧ ((ρ.c 0).length : Int) ≤ 8
      omega
    obtain ⟨z, M5⟩ := rf_to8 (u := u) E.c0 h41 rfl hcx8 M4
    have ha : tbA es p = if (es.getD k (0, [])).2.any (fgt p) then ⟨noPk, false, 4, es.eraseIdx k⟩
        else if dnB ((es.getD k (0, [])).2 ++ [p]) then ⟨whP ((es.getD k (0, [])).2 ++ [p]), true, 0, es.eraseIdx k⟩
        else ⟨noPk, false, 0, es.set k ((es.getD k (0, [])).1, (es.getD k (0, [])).2 ++ [p])⟩ := by
      unfold tbA
      rw [hix]
    refine rf_mid Y E (rfR_get hl hkl) (rf_row h M5.only hkl) (fun hc => rf_S h hkl hc) (fun hany => ?_) (fun hany => ?_) M5
    · intro v w' g cap rows ho hb ht hm e1 e2
      subst e2
      rw [z] at hb
      rw [ha, if_pos hany]
      exact ⟨e1, rf_gone h hkl ho hb ht hm⟩
    · intro v w' g cap rows gl cl ho hb ht hm hgl hh
      rw [z] at hb
      rw [ha, if_neg (by rw [hany]; decide)]
      rcases hh with ⟨d, e1, e2, e3⟩ | ⟨d, e1, e2⟩
      · subst e2
        rw [if_neg (by rw [d]; decide)]
        refine ⟨e1, ?_⟩
        have es1 : [sltV gl cl ((es.getD k (0, [])).2.length + 1), Value.int .i64 (es.getD k (0, [])).1] = [sltV (gl, cl).1 (gl, cl).2 ((es.getD k (0, [])).1, (es.getD k (0, [])).2 ++ [p]).2.length, .int .i64 ((es.getD k (0, [])).1, (es.getD k (0, [])).2 ++ [p]).1] := by
          rw [List.length_append, List.length_singleton]
        rw [es1, rfR_set hl] at hb ht
        refine rf_go h ho hb ht hm (by rw [List.length_set, List.length_set, hl]) (fun i hi => ?_) fun x hx h0 => ?_
        · rw [List.length_set] at hi
          rw [gD_set _ _ _ _ (by omega), gD_set _ _ _ _ hkl]
          split
          · exact e3
          · exact rf_row h ho hi
        · rcases List.mem_or_eq_of_mem_set hx with q | q
          · exact .inl q
          · rw [q] at h0 ⊢
            exact .inr (hgl h0)
      · subst e2
        rw [if_pos d]
        exact ⟨e1, rf_gone h hkl ho hb ht hm⟩
  · have hlo : lOf p es = [] := by unfold lOf; rw [hix]
    by_cases hful : es.length = 8
    · have hcx : cx7C.ok ρ := by
        refine cxP ⟨by show (8 : Int) ≤ ρ.i 40 ∧ ρ.i 40 ≤ 8; omega, ?_, hB⟩ trivial
        show (8 : Int) ≤ ((ρ.c 0).length : Int) ∧ ((ρ.c 0).length : Int) ≤ 8
        omega
      refine part_wp (B := ⟨ρ, rfW u a c, w, rfN u a c, 46⟩) (sp := []) H.good (fun q hq => by cases hq) rfl (r := rR7 Try.prog Try.f9 cx7C) rfl rf_run7C ⟨?_, trivial⟩ (Go.Proofs.Ytnmfmjlpfhdgeaa.Md.cxTo M cx7C hcx)
      intro _ β' A' w2 M'
      have hh := rf_hp7C
      rw [Bool.and_eq_true] at hh
      have ha : tbA es p = ⟨noPk, false, 9, es⟩ := by
        unfold tbA
        rw [hix]
        simp only
        rw [if_pos hful]
      rw [ha]
      refine ret_post (B := ⟨ρ, rfW u a c, w, rfN u a c, 46⟩) M' (retsB_ok rf_ret7C rfl) ⟨rfl, ?_⟩
      have B1 : Blk w2 (β' 0) 28 [sltZ (β' 2) (β' 3) 2 0 ((ρ.c 0).length : Int).toNat 0] := M'.hp _ (has_mem hh.1)
      have B2 : RowT w2 (β' 2) (β' 3) 64 rLv (ρ.c 0) := M'.hp _ (has_mem hh.2)
      have z0 : β' 0 = u := M'.old 0 (show 0 < 46 by decide)
      have z2 : β' 2 = a := M'.old 2 (show 2 < 46 by decide)
      have z3 : β' 3 = c := M'.old 3 (show 3 < 46 by decide)
      rw [sltZ_zero, z0, z2, z3, hlen, Int.toNat_natCast] at B1
      rw [z2, z3, H.c0] at B2
      exact rf_same h M'.only B1 B2
    · have hcx : cx7B.ok ρ := by
        refine cxP ⟨by show (0 : Int) ≤ ρ.i 40 ∧ ρ.i 40 ≤ 7; omega, ?_, hB⟩ ⟨?_, trivial⟩
        · show (0 : Int) ≤ ((ρ.c 0).length : Int) ∧ ((ρ.c 0).length : Int) ≤ 7
          omega
        · rw [t_eq]
          show ρ.i 40 = ((ρ.c 0).length : Int)
          omega
      refine part_wp (B := ⟨ρ, rfW u a c, w, rfN u a c, 46⟩) (sp := []) H.good (fun q hq => by cases hq) rfl (r := rR7 Try.prog Try.f9 cx7B) rfl rf_run7B ⟨?_, trivial⟩ (Go.Proofs.Ytnmfmjlpfhdgeaa.Md.cxTo M cx7B hcx)
      intro _ β' A' w2 M'
      show (rC8 Try.f9).wp Try.prog _ A' w2
      obtain ⟨v, β4, M4⟩ := Sy.Md.enter M' rf_m7B fun u => ⟨fun _ h => (by cases h), fun _ h => (by cases h)⟩
      have hsn : rfR (ls ++ [(0, 0)]) (es ++ [(0, [])]) = rfR ls es ++ [[sltV 0 0 0, .int .i64 0]] := rfR_snoc _ _ hl
      generalize hρ4 : ({ ρ.sub β' [.i 41 (.add (tlen (.cv 0)) (.il 1)), .c 0 (.tb .app (.cv 0) (.tb (.cons .sls) (.tb .nil (.il 0) (.il 0) (.il 0)) (.tb (.cons (.int .i64)) (.il 0) (.tb .row (.il 0) (.il 0) (.il 0)) (.il 0)) (.il 0)) (.il 0))] with u := v } : Env) = ρ4 at M4
      have c04 : ρ4.c 0 = rfR (ls ++ [(0, 0)]) (es ++ [(0, [])]) := by
        rw [hsn, ← hρ4]
        show ρ.c 0 ++ [[mkV .sls (den ρ (.tb .nil (.il 0) (.il 0) (.il 0))), .int .i64 0]] = _
        rw [H.c0]
        rfl
      have hl4 : (rfR (ls ++ [(0, 0)]) (es ++ [(0, [])])).length = es.length + 1 := by
        rw [hsn, List.length_append, List.length_singleton, rfR_len hl]
      have h41 : ρ4.i 41 = ((rfR (ls ++ [(0, 0)]) (es ++ [(0, [])])).length : Int) := by
        rw [hl4, ← hρ4]
        show ((ρ.c 0).length : Int) + 1 = _
        omega
      have E : RfA p [] (rfR (ls ++ [(0, 0)]) (es ++ [(0, [])])) es.length ρ4 := ⟨by rw [← hρ4]; exact H.good, by rw [← hρ4]; exact H.p20, c04, by rw [← hρ4, ← hlo]; exact H.c3, by rw [← hρ4]; exact h40, by rw [← hρ4, ← hlo]; exact H.f61, by rw [← hρ4]; exact H.f62⟩
      have hkT : (rfR (ls ++ [(0, 0)]) (es ++ [(0, [])])).getD es.length [] = [sltV 0 0 0, .int .i64 0] := by
        rw [hsn, gD_snoc _ _ _ _ (by rw [rfR_len hl]; omega), if_neg (by rw [rfR_len hl]; omega)]
      have Y : RfY p [] (rfR (ls ++ [(0, 0)]) (es ++ [(0, [])])) es.length := ⟨hp, GL.nil, by decide, by omega, by omega, fun r hr => by
        rw [hsn] at hr
        rcases List.mem_append.1 hr with q | q
        · exact h.tab.ok r q
        · rw [List.mem_singleton.1 q]
          exact ⟨⟨_, _, _, rfl⟩, ⟨_, rfl, by decide⟩, trivial⟩⟩
      have hcx8 : cx8.ok ρ4 := by
        refine cxP ⟨?_, ?_, tb_bds hp E.p20⟩ (E.lt Y)
        · show (0 : Int) ≤ ρ4.i 40 ∧ ρ4.i 40 ≤ 7
          rw [E.i40]; omega
        · show (1 : Int) ≤ ((ρ4.c 0).length : Int) ∧ ((ρ4.c 0).length : Int) ≤ 8
          rw [c04, hl4]; omega
      obtain ⟨z, M5⟩ := rf_to8 (u := u) c04 h41 rfl hcx8 M4
      have ha : tbA es p = ⟨noPk, false, 0, es ++ [(0, [p])]⟩ := by
        unfold tbA
        rw [hix]
        simp only
        rw [if_neg hful]
      rw [ha]
      refine rf_mid (age := 0) Y E hkT (RowT.none_ w2 0 35 pkLv) (fun hc => absurd rfl hc) (fun hany => by cases hany) (fun _ => ?_) M5
      intro v w' g cap rows gl cl ho hb ht hm hgl hh
      rw [z] at hb
      rcases hh with ⟨d, e1, e2, e3⟩ | ⟨d, e1, e2⟩
      · subst e2
        refine ⟨e1, ?_⟩
        have es1 : (rfR (ls ++ [(0, 0)]) (es ++ [(0, [])])).set es.length [sltV gl cl (([] : Rws).length + 1), Value.int .i64 0] = rfR (ls ++ [(gl, cl)]) (es ++ [(0, [p])]) := by
          rw [hsn, rfR_snoc _ _ hl, List.set_append_right _ _ (by rw [rfR_len hl]; omega), rfR_len hl, Nat.sub_self]
          rfl
        rw [es1] at hb ht
        refine rf_go h ho hb ht hm (by rw [List.length_append, List.length_append, List.length_singleton, List.length_singleton, hl]) (fun i hi => ?_) fun x hx h0 => ?_
        · rw [List.length_append, List.length_singleton] at hi
          rw [gD_snoc _ _ _ _ (by omega), gD_snoc _ _ _ _ (by omega), hl]
          split
          · exact rf_row h ho (by omega)
          · exact e3
        · rcases List.mem_append.1 hx with q | q
          · exact .inl q
          · rw [List.mem_singleton.1 q] at h0 ⊢
            exact .inr (hgl h0)
      · rw [show dnB ([] ++ [p]) = false from hp.new.2] at d
        cases d
end
end Go.Proofs.Ytnmfmjlpfhdgeaa
/- Fragments: the document's In: what is refused; its contract. -/
namespace Go.Proofs.Ytnmfmjlpfhdgeaa
open Go.RowKit Sy
set_option linter.unusedVariables false
set_option linter.unusedSimpArgs false

def rhdL : List Sh := [(.out 0 .ret [(.lt (.il 8191) (.iv 27)), (.not (.lt (.iv 27) (.il 0))), (.not (.lt (.il 65535) (.iv 24))), (.not (.lt (.iv 24) (.il 0))), (.not (.lt (.il 255) (.iv 23))), (.not (.lt (.iv 23) (.il 0))), (.not (.lt (.il 255) (.iv 22))), (.not (.lt (.iv 22) (.il 0)))]), (.out 1 .ret [(.lt (.il 1400) (.len (.sv 28))), (.not (.lt (.il 8191) (.iv 27))), (.not (.lt (.iv 27) (.il 0))), (.not (.lt (.il 65535) (.iv 24))), (.not (.lt (.iv 24) (.il 0))), (.not (.lt (.il 255) (.iv 23))), (.not (.lt (.iv 23) (.il 0))), (.not (.lt (.il 255) (.iv 22))), (.not (.lt (.iv 22) (.il 0)))]), (.out 2 .ret [(.eq (.iv 27) (.il 0)), (.not (.bv 26)), (.not (.lt (.il 1400) (.len (.sv 28)))), (.not (.lt (.il 8191) (.iv 27))), (.not (.lt (.iv 27) (.il 0))), (.not (.lt (.il 65535) (.iv 24))), (.not (.lt (.iv 24) (.il 0))), (.not (.lt (.il 255) (.iv 23))), (.not (.lt (.iv 23) (.il 0))), (.not (.lt (.il 255) (.iv 22))), (.not (.lt (.iv 22) (.il 0)))]), (.out 3 .ret [(.lt (.il 4000) (.add (.mul (.il 8) (.iv 27)) (.len (.sv 28)))), (.not (.eq (.iv 27) (.il 0))), (.not (.bv 26)), (.not (.lt (.il 1400) (.len (.sv 28)))), (.not (.lt (.il 8191) (.iv 27))), (.not (.lt (.iv 27) (.il 0))), (.not (.lt (.il 65535) (.iv 24))), (.not (.lt (.iv 24) (.il 0))), (.not (.lt (.il 255) (.iv 23))), (.not (.lt (.iv 23) (.il 0))), (.not (.lt (.il 255) (.iv 22))), (.not (.lt (.iv 22) (.il 0)))]), (.out 4 .normal [(.not (.lt (.il 4000) (.add (.mul (.il 8) (.iv 27)) (.len (.sv 28))))), (.not (.eq (.iv 27) (.il 0))), (.not (.bv 26)), (.not (.lt (.il 1400) (.len (.sv 28)))), (.not (.lt (.il 8191) (.iv 27))), (.not (.lt (.iv 27) (.il 0))), (.not (.lt (.il 65535) (.iv 24))), (.not (.lt (.iv 24) (.il 0))), (.not (.lt (.il 255) (.iv 23))), (.not (.lt (.iv 23) (.il 0))), (.not (.lt (.il 255) (.iv 22))), (.not (.lt (.iv 22) (.il 0)))]), (.out 5 .ret [(.lt (.il 0) (.md (.len (.sv 28)) (.il 8))), (.not (.eq (.len (.sv 28)) (.il 0))), (.bv 26), (.not (.lt (.il 1400) (.len (.sv 28)))), (.not (.lt (.il 8191) (.iv 27))), (.not (.lt (.iv 27) (.il 0))), (.not (.lt (.il 65535) (.iv 24))), (.not (.lt (.iv 24) (.il 0))), (.not (.lt (.il 255) (.iv 23))), (.not (.lt (.iv 23) (.il 0))), (.not (.lt (.il 255) (.iv 22))), (.not (.lt (.iv 22) (.il 0)))]), (.out 6 .ret [(.lt (.il 4000) (.add (.mul (.il 8) (.iv 27)) (.len (.sv 28)))), (.not (.lt (.il 0) (.md (.len (.sv 28)) (.il 8)))), (.not (.eq (.len (.sv 28)) (.il 0))), (.bv 26), (.not (.lt (.il 1400) (.len (.sv 28)))), (.not (.lt (.il 8191) (.iv 27))), (.not (.lt (.iv 27) (.il 0))), (.not (.lt (.il 65535) (.iv 24))), (.not (.lt (.iv 24) (.il 0))), (.not (.lt (.il 255) (.iv 23))), (.not (.lt (.iv 23) (.il 0))), (.not (.lt (.il 255) (.iv 22))), (.not (.lt (.iv 22) (.il 0)))]), (.out 7 .normal [(.not (.lt (.il 4000) (.add (.mul (.il 8) (.iv 27)) (.len (.sv 28))))), (.not (.lt (.il 0) (.md (.len (.sv 28)) (.il 8)))), (.not (.eq (.len (.sv 28)) (.il 0))), (.bv 26), (.not (.lt (.il 1400) (.len (.sv 28)))), (.not (.lt (.il 8191) (.iv 27))), (.not (.lt (.iv 27) (.il 0))), (.not (.lt (.il 65535) (.iv 24))), (.not (.lt (.iv 24) (.il 0))), (.not (.lt (.il 255) (.iv 23))), (.not (.lt (.iv 23) (.il 0))), (.not (.lt (.il 255) (.iv 22))), (.not (.lt (.iv 22) (.il 0)))]), (.out 8 .ret [(.eq (.len (.sv 28)) (.il 0)), (.bv 26), (.not (.lt (.il 1400) (.len (.sv 28)))), (.not (.lt (.il 8191) (.iv 27))), (.not (.lt (.iv 27) (.il 0))), (.not (.lt (.il 65535) (.iv 24))), (.not (.lt (.iv 24) (.il 0))), (.not (.lt (.il 255) (.iv 23))), (.not (.lt (.iv 23) (.il 0))), (.not (.lt (.il 255) (.iv 22))), (.not (.lt (.iv 22) (.il 0)))]), (.out 9 .ret [(.lt (.iv 27) (.il 0)), (.not (.lt (.il 65535) (.iv 24))), (.not (.lt (.iv 24) (.il 0))), (.not (.lt (.il 255) (.iv 23))), (.not (.lt (.iv 23) (.il 0))), (.not (.lt (.il 255) (.iv 22))), (.not (.lt (.iv 22) (.il 0)))]), (.out 10 .ret [(.lt (.il 65535) (.iv 24)), (.not (.lt (.iv 24) (.il 0))), (.not (.lt (.il 255) (.iv 23))), (.not (.lt (.iv 23) (.il 0))), (.not (.lt (.il 255) (.iv 22))), (.not (.lt (.iv 22) (.il 0)))]), (.out 11 .ret [(.lt (.iv 24) (.il 0)), (.not (.lt (.il 255) (.iv 23))), (.not (.lt (.iv 23) (.il 0))), (.not (.lt (.il 255) (.iv 22))), (.not (.lt (.iv 22) (.il 0)))]), (.out 12 .ret [(.lt (.il 255) (.iv 23)), (.not (.lt (.iv 23) (.il 0))), (.not (.lt (.il 255) (.iv 22))), (.not (.lt (.iv 22) (.il 0)))]), (.out 13 .ret [(.lt (.iv 23) (.il 0)), (.not (.lt (.il 255) (.iv 22))), (.not (.lt (.iv 22) (.il 0)))]), (.out 14 .ret [(.lt (.il 255) (.iv 22)), (.not (.lt (.iv 22) (.il 0)))]), (.out 15 .ret [(.lt (.iv 22) (.il 0))])]
set_option maxRecDepth 100000 in
theorem rf_runH : shR 46 none (rR0 Try.prog Try.f9 ⟨rhBs, []⟩) = some rhdL := by kernel_rfl
set_option maxRecDepth 100000 in
theorem rf_rH1 : retsB Try.prog Try.f9 (rR0 Try.prog Try.f9 ⟨rhBs, []⟩) (vIn zC false 1) [0, 9, 10, 11, 12, 13, 14, 15] = true := by kernel_rfl
set_option maxRecDepth 100000 in
theorem rf_rH2 : retsB Try.prog Try.f9 (rR0 Try.prog Try.f9 ⟨rhBs, []⟩) (vIn zC false 2) [1, 3, 6] = true := by kernel_rfl
set_option maxRecDepth 100000 in
theorem rf_rH4 : retsB Try.prog Try.f9 (rR0 Try.prog Try.f9 ⟨rhBs, []⟩) (vIn zC false 4) [5, 8] = true := by kernel_rfl
set_option maxRecDepth 100000 in
theorem rf_rH0 : retsB Try.prog Try.f9 (rR0 Try.prog Try.f9 ⟨rhBs, []⟩) (vIn (pkC 20) true 0) [2] = true := by kernel_rfl
set_option maxRecDepth 100000 in
theorem rf_hpH : ([0, 1, 2, 3, 5, 6, 8, 9, 10, 11, 12, 13, 14, 15].all fun k => hasBk (lfAt (rR0 Try.prog Try.f9 ⟨rhBs, []⟩) k) (uB 2 (tlen (.cv 0))) && hasBk (lfAt (rR0 Try.prog Try.f9 ⟨rhBs, []⟩) k) (loB 2 (.cv 0))) = true := by kernel_rfl
section
variable {p : List Value} {ls : List (Nat × Nat)} {es : List Ent} {ρ : Env} {w w1 w' : World} {u a c : Nat} {β0 β : Bn} {A : Act} {R : Value → World → Prop}
set_option maxRecDepth 100000 in
set_option maxHeartbeats 4000000 in
theorem rf_H (h : RfM w u a c ls es) (hok : FOk es) (hk : kAll pkLv p) (hT : isT p = false) : Calls Try.prog 9 #[.pointer (some ⟨u, 0, none⟩), .agg p.toArray] w (RetP fun v w' => v = ansV (inA' es p) ∧ RfGo w w' u a c ls (inA' es p).es) := by
  have I := rfEnv_H hk ls es
  generalize rfEnv p ls es = ρ at I
  have N := pk_n hk I.p20
  have hl := h.len
  have hlen := I.len hl
  have hsz : ((ρ.s 28).size : Int) = pSz p := by rw [N.s28]; rfl
  have hz0 : (0 : Int) ≤ pSz p := by unfold pSz; omega
  have hto : pTo p = 8 * pOff p + pSz p := rfl
  have hzm : pSz p ≤ 9223372036854775807 := by
    obtain ⟨a, b, c, d, e, f, g, i, s, rfl, _, hs⟩ := pk_mk hk
    unfold pSz pBody gS
    show (((if s.size ≤ 9223372036854775807 then s else none8).size : Nat) : Int) ≤ _
    rw [if_pos hs]; omega
  have bi : ∀ j, -9223372036854775808 ≤ gI .i64 p j ∧ gI .i64 p j ≤ 9223372036854775807 := fun j => gI_bd (k := .i64) p j
  have h8 := hok.l8
  have hc : Cx.ok ρ ⟨rhBs, []⟩ := by
    refine cxP ⟨?_, N.a20, N.a21, ?_, ?_, ?_, ?_, ?_, trivial⟩ trivial
    · show (0 : Int) ≤ ((ρ.c 0).length : Int) ∧ ((ρ.c 0).length : Int) ≤ 8
      omega
    · show _ ≤ ρ.i 22 ∧ ρ.i 22 ≤ _
      rw [N.a22]; exact bi 2
    · show _ ≤ ρ.i 23 ∧ ρ.i 23 ≤ _
      rw [N.a23]; exact bi 3
    · show _ ≤ ρ.i 24 ∧ ρ.i 24 ≤ _
      rw [N.a24]; exact bi 4
    · show _ ≤ ρ.i 27 ∧ ρ.i 27 ≤ _
      rw [N.a27]; exact bi 7
    · show (0 : Int) ≤ ((ρ.s 28).size : Int) ∧ ((ρ.s 28).size : Int) ≤ 9223372036854775807
      omega
  have hargs : (#[.pointer (some ⟨u, 0, none⟩), .agg p.toArray] : Array Value) = (rfA.map (SV.den ρ (rfN u a c))).toArray := by
    show _ = #[Value.pointer (some ⟨u, 0, none⟩), .agg (denL ρ (rfN u a c) (pkC 20)).toArray]
    rw [I.p20]
  have hA : inA' es p = ⟨hdK p, hdB p, hdE p, es⟩ := by unfold inA'; rw [hT]; rfl
  rw [hA]
  have hno : chkP p = 0 → ¬ (pMore p = false ∧ pOff p = 0) → ¬ (pMore p = true ∧ (pSz p = 0 ∨ pSz p % 8 ≠ 0)) → 4000 < pTo p := fun a b c => by
    refine Classical.byContradiction fun d => ?_
    have := decide_eq_true (p := chkP p = 0 ∧ ¬ (pMore p = false ∧ pOff p = 0) ∧ ¬ (pMore p = true ∧ (pSz p = 0 ∨ pSz p % 8 ≠ 0)) ∧ ¬ 4000 < pTo p) ⟨a, b, c, d⟩
    unfold isT at hT
    rw [this] at hT
    cases hT
  have fin : ∀ (cs : List C) (b : Bool) (e : Int) (ks : List Nat) (k : Nat), retsB Try.prog Try.f9 (rR0 Try.prog Try.f9 ⟨rhBs, []⟩) (vIn cs b e) ks = true → ks.contains k = true → (hasBk (lfAt (rR0 Try.prog Try.f9 ⟨rhBs, []⟩) k) (uB 2 (tlen (.cv 0))) = true ∧ hasBk (lfAt (rR0 Try.prog Try.f9 ⟨rhBs, []⟩) k) (loB 2 (.cv 0)) = true) → (∀ β, denL ρ β cs = hdK p) → hdB p = b → hdE p = e →
      ∀ β A w', Md ρ (rfW u a c) w (rfN u a c) 46 (lfAt (rR0 Try.prog Try.f9 ⟨rhBs, []⟩) k) β A w' → bodyPost Try.prog Try.f9 (RetP fun v w' => v = ansV ⟨hdK p, hdB p, hdE p, es⟩ ∧ RfGo w w' u a c ls es) .ret A w' := fun cs b e ks k h1 h2 hh h4 h5 h6 β A w' M => by
    refine ret_post (B := ⟨ρ, rfW u a c, w, rfN u a c, 46⟩) M (retsB_ok h1 h2) ⟨?_, ?_⟩
    · show Value.tuple #[.agg (denL ρ β cs).toArray, .bool b, .int .i64 e] = _
      rw [h4, ← h5, ← h6]
      rfl
    · have B1 : Blk w' (β 0) 28 [sltZ (β 2) (β 3) 2 0 ((ρ.c 0).length : Int).toNat 0] := M.hp _ (has_mem hh.1)
      have B2 : RowT w' (β 2) (β 3) 64 rLv (ρ.c 0) := M.hp _ (has_mem hh.2)
      have z0 : β 0 = u := M.old 0 (show 0 < 46 by decide)
      have z2 : β 2 = a := M.old 2 (show 2 < 46 by decide)
      have z3 : β 3 = c := M.old 3 (show 3 < 46 by decide)
      rw [sltZ_zero, z0, z2, z3, hlen, Int.toNat_natCast] at B1
      rw [z2, z3, I.c0] at B2
      exact rf_same h M.only B1 B2
  have hh := rf_hpH
  simp only [List.all_cons, List.all_nil, Bool.and_eq_true, and_true] at hh
  obtain ⟨q0, q1, q2, q3, q5, q6, q8, q9, q10, q11, q12, q13, q14, q15⟩ := hh
  refine calls_pre (B := ⟨ρ, rfW u a c, w, rfN u a c, 46⟩) (sp := []) (p := P1) (xs := rfA) (s := rfS ⟨rhBs, []⟩) (r := rR0 Try.prog Try.f9 ⟨rhBs, []⟩) I.good (fun q hq => by cases hq) rfl Try.func9 rfl rfl rf_runH (rf_init h I hc) ?_ hargs
  have z : ∀ β, denL ρ β zC = noPk := fun β => rfl
  have a22 := N.a22
  have a23 := N.a23
  have a24 := N.a24
  have a27 := N.a27
  have b26 := N.b26
  refine ⟨?_, ?_, ?_, ?_, ?_, ?_, ?_, ?_, ?_, ?_, ?_, ?_, ?_, ?_, ?_, ?_, trivial⟩ <;> intro hpc <;> simp only [pcs, t_lt, t_le, t_eq, t_not, t_bv, i_iv, i_il, i_add, i_len, i_md, i_mul, i_wrapE, s_sv, a22, a23, a24, a27, b26, hsz, Bool.not_eq_true] at hpc
  · obtain ⟨x0, x1, x2⟩ := hd_c (chk_1 (p := p) (by omega)) (by decide)
    exact fin zC false 1 _ 0 rf_rH1 rfl q0 (fun β => (z β).trans x0.symm) x1 x2
  · obtain ⟨x0, x1, x2⟩ := hd_c (chk_2 (p := p) (by omega) (by omega)) (by decide)
    exact fin zC false 2 _ 1 rf_rH2 rfl q1 (fun β => (z β).trans x0.symm) x1 x2
  · obtain ⟨x0, x1, x2⟩ := hd_p (chk_0 (p := p) (by omega) (by omega)) (by simp_all) (by omega)
    exact fin (pkC 20) true 0 _ 2 rf_rH0 rfl q2 (fun β => (I.p20 β).trans x0.symm) x1 x2
  · have hm : pMore p = false := by simp_all
    obtain ⟨x0, x1, x2⟩ := hd_2 (chk_0 (p := p) (by omega) (by omega)) (fun e => by omega) (fun e => by rw [hm] at e; cases e.1) (by omega)
    exact fin zC false 2 _ 3 rf_rH2 rfl q3 (fun β => (z β).trans x0.symm) x1 x2
  · have hm : pMore p = false := by simp_all
    have := hno (chk_0 (p := p) (by omega) (by omega)) (fun e => by omega) (fun e => by rw [hm] at e; cases e.1)
    omega
  · have hm : pMore p = true := by simp_all
    obtain ⟨x0, x1, x2⟩ := hd_4 (chk_0 (p := p) (by omega) (by omega)) hm (by omega)
    exact fin zC false 4 _ 5 rf_rH4 rfl q5 (fun β => (z β).trans x0.symm) x1 x2
  · have hm : pMore p = true := by simp_all
    obtain ⟨x0, x1, x2⟩ := hd_2 (chk_0 (p := p) (by omega) (by omega)) (fun e => by rw [hm] at e; cases e.1) (fun e => by omega) (by omega)
    exact fin zC false 2 _ 6 rf_rH2 rfl q6 (fun β => (z β).trans x0.symm) x1 x2
  · have hm : pMore p = true := by simp_all
    have := hno (chk_0 (p := p) (by omega) (by omega)) (fun e => by rw [hm] at e; cases e.1) (fun e => by omega)
    omega
  · have hm : pMore p = true := by simp_all
    obtain ⟨x0, x1, x2⟩ := hd_4 (chk_0 (p := p) (by omega) (by omega)) hm (by omega)
    exact fin zC false 4 _ 8 rf_rH4 rfl q8 (fun β => (z β).trans x0.symm) x1 x2
  · obtain ⟨x0, x1, x2⟩ := hd_c (chk_1 (p := p) (by omega)) (by decide)
    exact fin zC false 1 _ 9 rf_rH1 rfl q9 (fun β => (z β).trans x0.symm) x1 x2
  · obtain ⟨x0, x1, x2⟩ := hd_c (chk_1 (p := p) (by omega)) (by decide)
    exact fin zC false 1 _ 10 rf_rH1 rfl q10 (fun β => (z β).trans x0.symm) x1 x2
  · obtain ⟨x0, x1, x2⟩ := hd_c (chk_1 (p := p) (by omega)) (by decide)
    exact fin zC false 1 _ 11 rf_rH1 rfl q11 (fun β => (z β).trans x0.symm) x1 x2
  · obtain ⟨x0, x1, x2⟩ := hd_c (chk_1 (p := p) (by omega)) (by decide)
    exact fin zC false 1 _ 12 rf_rH1 rfl q12 (fun β => (z β).trans x0.symm) x1 x2
  · obtain ⟨x0, x1, x2⟩ := hd_c (chk_1 (p := p) (by omega)) (by decide)
    exact fin zC false 1 _ 13 rf_rH1 rfl q13 (fun β => (z β).trans x0.symm) x1 x2
  · obtain ⟨x0, x1, x2⟩ := hd_c (chk_1 (p := p) (by omega)) (by decide)
    exact fin zC false 1 _ 14 rf_rH1 rfl q14 (fun β => (z β).trans x0.symm) x1 x2
  · obtain ⟨x0, x1, x2⟩ := hd_c (chk_1 (p := p) (by omega)) (by decide)
    exact fin zC false 1 _ 15 rf_rH1 rfl q15 (fun β => (z β).trans x0.symm) x1 x2
theorem rf_start (hk : kAll pkLv p) (H : RfH p ls es ρ) : (#[.pointer (some ⟨u, 0, none⟩), .agg p.toArray] : Array Value) = (rfA.map (SV.den ρ (rfN u a c))).toArray := by
  show _ = #[Value.pointer (some ⟨u, 0, none⟩), .agg (denL ρ (rfN u a c) (pkC 20)).toArray]
  rw [H.p20]
set_option maxRecDepth 100000 in
set_option maxHeartbeats 1000000 in
theorem rf_T (h : RfM w u a c ls es) (hok : FOk es) (hb : ∀ e ∈ es, e.2.length < 1099511627776) (hp : TbP p) : Calls Try.prog 9 #[.pointer (some ⟨u, 0, none⟩), .agg p.toArray] w (RetP fun v w' => v = ansV (tbA es p) ∧ RfGo w w' u a c ls (tbA es p).es) := by
  have H := rfEnv_H hp.ok ls es
  generalize rfEnv p ls es = ρ at H
  have hl := h.len
  have hlen := H.len hl
  have h8 := hok.l8
  have N := pk_n hp.ok H.p20
  have es28 : ((ρ.s 28).size : Int) = pSz p := by rw [N.s28]; rfl
  have hbs : bdsP ρ rBs := ⟨by show (0 : Int) ≤ ((ρ.c 0).length : Int) ∧ ((ρ.c 0).length : Int) ≤ 8; omega, tb_bds hp H.p20⟩
  have J : ∀ β v, RfS p ls es { ρ.sub β [.i 40 (.il 0)] with u := v } := fun β v => ⟨⟨H.good, H.p20, H.c0, H.c3, H.f60, H.f61, H.f62⟩, Int.le_refl _, by show (0 : Int) ≤ _; omega, fun j hj => by
    change (j : Int) < 0 at hj
    omega⟩
  have go : ∀ (s : Sy.St), (matchS 46 rT1 s).map noU = some [.i 40 (.il 0)] → ∀ β A w1, Md ρ (rfW u a c) w (rfN u a c) 46 s β A w1 → (Sy.sub P1 (bodyOf Try.f9)).wp Try.prog (ctx Try.prog P1 (bodyOf Try.f9) (bodyPost Try.prog Try.f9 (RetP fun v w' => v = ansV (tbA es p) ∧ RfGo w w' u a c ls (tbA es p).es))) A w1 := fun s hm β A w1 M => by
    obtain ⟨v, β', M'⟩ := Sy.Md.enter M hm fun v => (J β v).cx hp hl h8
    rw [show Sy.sub P1 (bodyOf Try.f9) = .loop (rC1 Try.f9) by kernel_rfl]
    refine rf_scan h hok hb hp (J β v) (fun ρ' k H' h40 hk β2 A2 w2 M2 => ?_) M'
    show (Code.seq (rC7 Try.f9) (rC8 Try.f9)).wp Try.prog (bodyPost Try.prog Try.f9 _) A2 w2
    exact rf_from7 h hok hb hp H' h40 hk M2
  cases hm : pMore p with
  | true =>
    have m1 := hp.m1 hm
    refine calls_pre (B := ⟨ρ, rfW u a c, w, rfN u a c, 46⟩) (sp := []) (p := P1) (xs := rfA) (s := rfS ⟨rBs, rc1⟩) (r := rR0 Try.prog Try.f9 ⟨rBs, rc1⟩) H.good (fun q hq => by cases hq) rfl Try.func9 rfl rfl rf_run01 (rf_init h H (cxP hbs ⟨?_, ?_, ?_, trivial⟩)) ⟨?_, trivial⟩ (rf_start hp.ok H)
    · rw [t_bv, N.b26]; exact hm
    · rw [t_not, t_eq]
      show ¬ ((ρ.s 28).size : Int) = 0
      omega
    · rw [t_not, t_lt, i_md]
      show ¬ (0 : Int) < ((ρ.s 28).size : Int) % 8
      omega
    · intro _ β A w1 M
      exact go _ rf_m1 β A w1 M
  | false =>
    have m0 := hp.m0 hm
    refine calls_pre (B := ⟨ρ, rfW u a c, w, rfN u a c, 46⟩) (sp := []) (p := P1) (xs := rfA) (s := rfS ⟨rBs, pc2⟩) (r := rR0 Try.prog Try.f9 ⟨rBs, pc2⟩) H.good (fun q hq => by cases hq) rfl Try.func9 rfl rfl rf_run02 (rf_init h H (cxP hbs ⟨?_, ?_, trivial⟩)) ⟨?_, trivial⟩ (rf_start hp.ok H)
    · rw [t_not, t_bv, N.b26, hm]; decide
    · rw [t_not, t_eq]
      show ¬ ρ.i 27 = 0
      rw [N.a27]; exact m0
    · intro _ β A w1 M
      exact go _ rf_m2 β A w1 M
/-- In. -/
theorem rin_calls (h : RfM w u a c ls es) (hok : FOk es) (hb : ∀ e ∈ es, e.2.length < 1099511627776) (hk : kAll pkLv p) : Calls Try.prog 9 #[.pointer (some ⟨u, 0, none⟩), .agg p.toArray] w (RetP fun v w' => v = ansV (inA' es p) ∧ RfGo w w' u a c ls (inA' es p).es) := by
  cases hT : isT p with
  | false => exact rf_H h hok hk hT
  | true =>
    have hi : inA' es p = tbA es p := by
      unfold inA'
      rw [if_pos hT]
    rw [hi]
    exact rf_T h hok hb (isT_ok hk hT)
end
end Go.Proofs.Ytnmfmjlpfhdgeaa
/- Fragments: the document's Tick. -/
namespace Go.Proofs.Ytnmfmjlpfhdgeaa
open Go.RowKit Sy
set_option linter.unusedVariables false
set_option linter.unusedSimpArgs false

def rkA : List SV := [.one (.c (.ptr 0 0)), .one (.c (.int .i64 (.iv 20)))]
def rkS : Sy.St := rfS ⟨[⟨tlen (.cv 0), 0, 8⟩, i64B 20], []⟩
def PT : List Nat := [1, 1, 1, 0, 1, 2]
def rkR0 (P : Program) (fn : Func) : Rs := run P [] 10 400 46 (.code (pre PT (bodyOf fn))) (enterS fn rkA rkS)
def ageT : Tm := .tb (.get (.int .i64) 1) (.cv 0) (.iv 41) (.il 0)
def rkVs (n : Tm) : List (Nat × SV) := [(0, vp 0), (1, vi (.iv 20)), (4, vi (.il 0)), (5, .one (.c (.slt 60 2 (.il 0) n (.il 0))))]
def rkVl : List (Nat × SV) := [(13, .one (.c (.slt 2 2 (.il 0) (tlen (.cv 0)) (.il 0)))), (14, vi (tlen (.cv 0))), (15, vi (.iv 41))]
def rkBs : List Bd := [⟨.iv 41, 0, 8⟩, ⟨tlen (.cv 0), 0, 8⟩, ⟨tlen (.cv 6), 0, 8⟩, ⟨.iv 42, 0, 8⟩, ⟨ageT, 0, 29⟩, ⟨.iv 20, 0, 9223372036854775807⟩]
def rkPc : List Tm := [.le (.iv 42) (tlen (.cv 6)), .le (tlen (.cv 6)) (.iv 42)]
def rkT : Sy.St := ⟨tmL 38 (rkVl ++ rkVs (.iv 42)), [uB 2 (tlen (.cv 0)), loB 60 (.cv 6), loB 2 (.cv 0)], ⟨rkBs, .le (.iv 41) (tlen (.cv 0)) :: rkPc⟩, 70⟩
def rkL (fn : Func) : Code := lpBody (Sy.sub PT (bodyOf fn))
def rkR1 (P : Program) (fn : Func) : Rs := run P [] 10 400 46 (.code (rkL fn)) rkT
def rkR2 (P : Program) (fn : Func) : Rs := run P [] 10 400 46 (.code (aft (.exit 0) PT (bodyOf fn))) (lfAt (rkR1 P fn) 2)
def rkMore : List As := [.i 42 (.add (tlen (.cv 6)) (.il 1)), .i 41 (.add (.iv 41) (.il 1)), .c 6 (.tb .app (.cv 6) (.tb (.cons .sls) (.tb (.get .sls 0) (.cv 0) (.iv 41) (.il 0)) (.tb (.cons (.int .i64)) (.add ageT (.iv 20)) (.tb .row (.il 0) (.il 0) (.il 0)) (.il 0)) (.il 0)) (.il 0))]
set_option maxRecDepth 100000 in
theorem rk_run0 : shR 46 none (rkR0 Try.prog Try.f7) = some [.out 0 .ret [.lt (.iv 20) (.il 0)], .out 1 .normal [.not (.lt (.iv 20) (.il 0))]] := by kernel_rfl
set_option maxRecDepth 100000 in
theorem rk_ret0 : retsB Try.prog Try.f7 (rkR0 Try.prog Try.f7) (.one (.c (.int .i64 (.il 1)))) [0] = true := by kernel_rfl
set_option maxRecDepth 100000 in
theorem rk_hp0 : (hasBk (lfAt (rkR0 Try.prog Try.f7) 0) (uB 2 (tlen (.cv 0))) && hasBk (lfAt (rkR0 Try.prog Try.f7) 0) (loB 2 (.cv 0))) = true := by kernel_rfl
set_option maxRecDepth 100000 in
theorem rk_fr : ((lfAt (rkR0 Try.prog Try.f7) 1).free 60, (lfAt (rkR0 Try.prog Try.f7) 1).free 61) = (true, true) := by kernel_rfl
set_option maxRecDepth 100000 in
theorem rk_m : (matchS 46 rkT (tabSlot (lfAt (rkR0 Try.prog Try.f7) 1) 5 60 64 rLv)).map noU = some [.i 42 (.il 0), .i 41 (.il 0), .c 6 (.tb .nil (.il 0) (.il 0) (.il 0))] := by kernel_rfl
set_option maxRecDepth 100000 in
theorem rk_run1 : shR 46 (some rkT) (rkR1 Try.prog Try.f7) = some [.back rkMore (.lt (.iv 20) (.sub (.il 30) ageT) :: .lt (.iv 41) (tlen (.cv 0)) :: .le (.iv 41) (tlen (.cv 0)) :: rkPc),
  .back [.i 41 (.add (.iv 41) (.il 1))] (.not (.lt (.iv 20) (.sub (.il 30) ageT)) :: .lt (.iv 41) (tlen (.cv 0)) :: .le (.iv 41) (tlen (.cv 0)) :: rkPc),
  .out 2 (.exit 0) (.not (.lt (.iv 41) (tlen (.cv 0))) :: .le (.iv 41) (tlen (.cv 0)) :: rkPc)] := by kernel_rfl
set_option maxRecDepth 100000 in
theorem rk_run2 : shR 46 none (rkR2 Try.prog Try.f7) = some [.out 0 .ret (.not (.lt (.iv 41) (tlen (.cv 0))) :: .le (.iv 41) (tlen (.cv 0)) :: rkPc)] := by kernel_rfl
set_option maxRecDepth 100000 in
theorem rk_ret2 : retsB Try.prog Try.f7 (rkR2 Try.prog Try.f7) (.one (.c (.int .i64 (.il 0)))) [0] = true := by kernel_rfl
set_option maxRecDepth 100000 in
theorem rk_hp2 : (hasBk (lfAt (rkR2 Try.prog Try.f7) 0) (uB 60 (.iv 42)) && hasBk (lfAt (rkR2 Try.prog Try.f7) 0) (loB 60 (.cv 6))) = true := by kernel_rfl
/-! Plainly. -/
abbrev Zt := (Nat × Nat) × Ent
def rfZ (Z : List Zt) : Rws := Z.map fun x => [sltV x.1.1 x.1.2 x.2.2.length, .int .i64 x.2.1]
def tkZ (n : Int) (Z : List Zt) : List Zt := (Z.filter fun x => decide (n < 30 - x.2.1)).map fun x => (x.1, (x.2.1 + n, x.2.2))
theorem rfR_Z : ∀ (ls : List (Nat × Nat)) (es : List Ent), rfR ls es = rfZ (ls.zip es)
  | [], es => by cases es <;> rfl
  | x :: ls, [] => rfl
  | x :: ls, e :: es => by
    show [sltV x.1 x.2 e.2.length, .int .i64 e.1] :: rfR ls es = _
    rw [rfR_Z ls es]
    rfl
theorem rfZ_un : ∀ Z : List Zt, rfR (Z.map fun x => x.1) (Z.map fun x => x.2) = rfZ Z
  | [] => rfl
  | x :: Z => by
    show [sltV x.1.1 x.1.2 x.2.2.length, .int .i64 x.2.1] :: rfR (Z.map fun x => x.1) (Z.map fun x => x.2) = _
    rw [rfZ_un Z]
    rfl
theorem tkZ_snoc (n : Int) (Z : List Zt) (x : Zt) : tkZ n (Z ++ [x]) = tkZ n Z ++ (if n < 30 - x.2.1 then [(x.1, (x.2.1 + n, x.2.2))] else []) := by
  unfold tkZ
  rw [List.filter_append, List.map_append]
  congr 1
  by_cases h : n < 30 - x.2.1
  · rw [if_pos h, List.filter_cons_of_pos (by simpa using h)]; rfl
  · rw [if_neg h, List.filter_cons_of_neg (by simpa using h)]; rfl
theorem tkZ_es {n : Int} : ∀ {ls : List (Nat × Nat)} {es : List Ent}, ls.length = es.length → (tkZ n (ls.zip es)).map (fun x => x.2) = (es.filter fun e => decide (n < 30 - e.1)).map fun e => (e.1 + n, e.2)
  | [], [], _ => rfl
  | x :: ls, e :: es, h => by
    have ih := tkZ_es (n := n) (ls := ls) (es := es) (by simpa using h)
    unfold tkZ at ih ⊢
    rw [List.zip_cons_cons]
    by_cases q : n < 30 - e.1
    · rw [List.filter_cons_of_pos (by simpa using q), List.filter_cons_of_pos (by simpa using q), List.map_cons, List.map_cons, List.map_cons, ih]
    · rw [List.filter_cons_of_neg (by simpa using q), List.filter_cons_of_neg (by simpa using q), ih]
  | [], _ :: _, h => by cases h
  | _ :: _, [], h => by cases h
theorem tkZ_mem {n : Int} {Z : List Zt} {x : Zt} (h : x ∈ tkZ n Z) : ∃ y ∈ Z, x.1 = y.1 ∧ x.2.2 = y.2.2 := by
  obtain ⟨y, hy, rfl⟩ := List.mem_map.1 h
  exact ⟨y, (List.mem_filter.1 hy).1, rfl, rfl⟩
section
variable {n : Int} {ls : List (Nat × Nat)} {es : List Ent} {ρ : Env} {w w' : World} {u a c : Nat}
structure RkI (n : Int) (ls : List (Nat × Nat)) (es : List Ent) (ρ : Env) : Prop where
  good : ρ.good
  c0 : ρ.c 0 = rfR ls es
  i20 : ρ.i 20 = n
  h0 : 0 ≤ ρ.i 41
  h1 : ρ.i 41 ≤ es.length
  c6 : ρ.c 6 = rfZ (tkZ n ((ls.zip es).take (ρ.i 41).toNat))
  i42 : ρ.i 42 = ((ρ.c 6).length : Int)
theorem zip_at (hl : ls.length = es.length) {i : Nat} (hi : i < es.length) : (ls.zip es).take (i + 1) = (ls.zip es).take i ++ [(ls.getD i (0, 0), es.getD i (0, []))] := by
  have hz : i < (ls.zip es).length := by rw [List.length_zip, hl]; omega
  rw [List.take_succ_eq_append_getElem hz, List.getElem_zip]
  congr 2
  rw [List.getD_eq_getElem?_getD, List.getElem?_eq_getElem (by omega), getD_at hi]
  rfl
theorem RkI.age (I : RkI n ls es ρ) (hok : FOk es) (hl : ls.length = es.length) : (den ρ ageT).i = (es.getD (ρ.i 41).toNat (0, [])).1 ∧ 0 ≤ (den ρ ageT).i ∧ (den ρ ageT).i ≤ 29 := by
  have h0 := I.h0
  have hd : (den ρ ageT).i = gI .i64 ((rfR ls es).getD (ρ.i 41).toNat []) 1 := by
    show gI .i64 ((ρ.c 0).getD (ρ.i 41).toNat []) 1 = _
    rw [I.c0]
  by_cases hi : (ρ.i 41).toNat < es.length
  · have hE := hok.ok _ (List.getElem_mem hi)
    rw [← getD_at hi] at hE
    have a0 := hE.a0
    have a1 := hE.a1
    have : gI .i64 ((rfR ls es).getD (ρ.i 41).toNat []) 1 = (es.getD (ρ.i 41).toNat (0, [])).1 := by
      rw [rfR_get hl hi]
      exact gI_lit (k := .i64) rfl (show (-9223372036854775808 : Int) ≤ _ by omega) (show _ ≤ (9223372036854775807 : Int) by omega)
    rw [hd, this]
    exact ⟨rfl, a0, by omega⟩
  · have e1 : (rfR ls es).getD (ρ.i 41).toNat [] = [] := by
      rw [List.getD_eq_getElem?_getD, List.getElem?_eq_none (by rw [rfR_len hl]; omega)]; rfl
    have e2 : es.getD (ρ.i 41).toNat (0, []) = (0, []) := by
      rw [List.getD_eq_getElem?_getD, List.getElem?_eq_none (by omega)]; rfl
    rw [hd, e1, e2]
    decide
theorem tkZ_len (n : Int) (Z : List Zt) : (tkZ n Z).length ≤ Z.length := by
  unfold tkZ
  rw [List.length_map]
  exact List.length_filter_le ..
theorem RkI.cx (I : RkI n ls es ρ) (hok : FOk es) (hl : ls.length = es.length) (hn : 0 ≤ n ∧ n ≤ 9223372036854775807) : rkT.cx.ok ρ := by
  have h0 := I.h0
  have h1 := I.h1
  have h8 := hok.l8
  have e0 : (ρ.c 0).length = es.length := by rw [I.c0, rfR_len hl]
  have e6 : (ρ.c 6).length ≤ 8 := by
    rw [I.c6]
    unfold rfZ
    rw [List.length_map]
    refine Nat.le_trans (tkZ_len ..) ?_
    rw [List.length_take, List.length_zip, hl]
    omega
  have i42 := I.i42
  refine cxP ⟨?_, ?_, ?_, ?_, (I.age hok hl).2, ?_, trivial⟩ ⟨?_, ?_, ?_, trivial⟩
  · show (0 : Int) ≤ ρ.i 41 ∧ ρ.i 41 ≤ 8
    omega
  · show (0 : Int) ≤ ((ρ.c 0).length : Int) ∧ ((ρ.c 0).length : Int) ≤ 8
    omega
  · show (0 : Int) ≤ ((ρ.c 6).length : Int) ∧ ((ρ.c 6).length : Int) ≤ 8
    omega
  · show (0 : Int) ≤ ρ.i 42 ∧ ρ.i 42 ≤ 8
    omega
  · show (0 : Int) ≤ ρ.i 20 ∧ ρ.i 20 ≤ 9223372036854775807
    rw [I.i20]; exact hn
  · rw [t_le]
    show ρ.i 41 ≤ ((ρ.c 0).length : Int)
    omega
  · rw [t_le]
    show ρ.i 42 ≤ ((ρ.c 6).length : Int)
    omega
  · rw [t_le]
    show ((ρ.c 6).length : Int) ≤ ρ.i 42
    omega
theorem rk_init (h : RfM w u a c ls es) (hc0 : ρ.c 0 = rfR ls es) {c' : Cx} (hc : c'.ok ρ) : Md ρ (rfW u a c) w (rfN u a c) 46 (rfS c') (rfN u a c) ⟨#[], []⟩ w := by
  have hr : ∀ {β : Bn}, Bk.real β (loB 2 (.cv 0)) → β 3 ≠ 0 := fun h => h.resolve_left (by simp [loB, Bk.nilable, Xt.isTab])
  refine Sy.Md.init ⟨?_, ?_, trivial⟩ ⟨⟨fun _ q => apart.of rfl rfl (h.u_a (hr q)), trivial⟩, trivial, trivial⟩ ⟨fun _ _ i hi => .inl (fp_one rfl hi), fun _ q i hi => .inr ⟨hr q, fp_one rfl hi⟩, trivial⟩ hc rfl
  · show Blk w u 28 [sltZ a c 2 0 ((ρ.c 0).length : Int).toNat 0]
    rw [sltZ_zero, hc0, rfR_len h.len, Int.toNat_natCast]
    exact h.obj
  · show RowT w a c 64 rLv (ρ.c 0)
    rw [hc0]; exact h.tab
set_option maxRecDepth 100000 in
set_option maxHeartbeats 1000000 in
/-- Tick. -/
theorem rtick_calls (h : RfM w u a c ls es) (hok : FOk es) (n0 : -9223372036854775808 ≤ n) (n1 : n ≤ 9223372036854775807) : Calls Try.prog 7 #[.pointer (some ⟨u, 0, none⟩), .int .i64 n] w (RetP fun v w' => v = .int .i64 (tkE n) ∧ RfGo w w' u a c ls (tkL es n)) := by
  have hl := h.len
  have h8 := hok.l8
  obtain ⟨ρ, hρ⟩ : ∃ ρ : Env, ρ = { mkEnv0 [] [] [] [] with i := fun _ => n, c := fun _ => rfR ls es } := ⟨_, rfl⟩
  have hg : ρ.good := by rw [hρ]; exact fun i => rfl
  have c0 : ρ.c 0 = rfR ls es := by rw [hρ]
  have i20 : ρ.i 20 = n := by rw [hρ]
  have e0 : (ρ.c 0).length = es.length := by rw [c0, rfR_len hl]
  refine calls_pre (B := ⟨ρ, rfW u a c, w, rfN u a c, 46⟩) (sp := []) (p := PT) (xs := rkA) (s := rkS) (r := rkR0 Try.prog Try.f7) hg (fun q hq => by cases hq) rfl Try.func7 rfl rfl rk_run0 (rk_init h c0 (cxP ⟨?_, ?_, trivial⟩ trivial)) ⟨?_, ?_, trivial⟩ (by
    show _ = #[Value.pointer (some ⟨u, 0, none⟩), .int .i64 (ρ.i 20)]
    rw [i20])
  · show (0 : Int) ≤ ((ρ.c 0).length : Int) ∧ ((ρ.c 0).length : Int) ≤ 8
    omega
  · show (-9223372036854775808 : Int) ≤ ρ.i 20 ∧ ρ.i 20 ≤ 9223372036854775807
    omega
  · intro hpc β A w1 M
    have hlt := hpc.1
    rw [t_lt] at hlt
    change ρ.i 20 < 0 at hlt
    have hh := rk_hp0
    rw [Bool.and_eq_true] at hh
    refine ret_post (B := ⟨ρ, rfW u a c, w, rfN u a c, 46⟩) M (retsB_ok rk_ret0 rfl) ⟨?_, ?_⟩
    · show Value.int .i64 1 = _
      unfold tkE
      rw [if_pos (by omega)]
    · have B1 : Blk w1 (β 0) 28 [sltZ (β 2) (β 3) 2 0 ((ρ.c 0).length : Int).toNat 0] := M.hp _ (has_mem hh.1)
      have B2 : RowT w1 (β 2) (β 3) 64 rLv (ρ.c 0) := M.hp _ (has_mem hh.2)
      have z0 : β 0 = u := M.old 0 (show 0 < 46 by decide)
      have z2 : β 2 = a := M.old 2 (show 2 < 46 by decide)
      have z3 : β 3 = c := M.old 3 (show 3 < 46 by decide)
      rw [sltZ_zero, z0, z2, z3, e0, Int.toNat_natCast] at B1
      rw [z2, z3, c0] at B2
      unfold tkL
      rw [if_pos (by omega)]
      exact rf_same h M.only B1 B2
  · intro hpc β A w1 M
    have hge := hpc.1
    rw [t_not, t_lt] at hge
    change ¬ ρ.i 20 < 0 at hge
    have hn : 0 ≤ n ∧ n ≤ 9223372036854775807 := by omega
    obtain ⟨f0, f1⟩ := Prod.mk.inj rk_fr
    obtain ⟨β1, M1⟩ := Sy.Md.tabSlot M 5 60 64 rLv (show 46 ≤ 60 by decide) f0 f1
    have J : ∀ v, RkI n ls es { ρ.sub β1 [.i 42 (.il 0), .i 41 (.il 0), .c 6 (.tb .nil (.il 0) (.il 0) (.il 0))] with u := v } := fun v => ⟨hg, c0, i20, Int.le_refl _, by show (0 : Int) ≤ _; omega, by
      show ([] : Rws) = rfZ (tkZ n ((ls.zip es).take 0))
      rw [List.take_zero]; rfl, rfl⟩
    obtain ⟨v, β2, M2⟩ := Sy.Md.enter M1 rk_m fun v => (J v).cx hok hl hn
    show (Sy.sub PT (bodyOf Try.f7)).wp Try.prog (ctx Try.prog PT (bodyOf Try.f7) _) A w1
    rw [show Sy.sub PT (bodyOf Try.f7) = .loop (rkL Try.f7) by kernel_rfl]
    refine loop_wp (r := rkR1 Try.prog Try.f7) rfl rk_run1 (RkI n ls es) (fun ρ => es.length - (ρ.i 41).toNat) (fun ρ I => I.good) (fun ρ I q hq => by cases hq) (fun ρ I => I.cx hok hl hn) ?_ (J v) M2
    clear hρ hg c0 i20 e0 hge hpc J M M1 M2
    intro ρ I
    have g0 := I.h0
    have g1 := I.h1
    obtain ⟨ha, _, _⟩ := I.age hok hl
    have e0 : ((ρ.c 0).length : Int) = (es.length : Int) := by rw [I.c0, rfR_len hl]
    have zs : ρ.i 41 < es.length → (ls.zip es).take (ρ.i 41 + 1).toNat = (ls.zip es).take (ρ.i 41).toNat ++ [(ls.getD (ρ.i 41).toNat (0, 0), es.getD (ρ.i 41).toNat (0, []))] := fun hi => by
      rw [show (ρ.i 41 + 1).toNat = (ρ.i 41).toNat + 1 by omega]
      exact zip_at hl (by omega)
    refine ⟨?_, ?_, ?_, trivial⟩
    · intro hpc β v
      have c1 := hpc.1
      have c2 := hpc.2.1
      rw [t_lt, i_sub, ha] at c1
      change ρ.i 20 < 30 - _ at c1
      rw [I.i20] at c1
      rw [t_lt] at c2
      change ρ.i 41 < ((ρ.c 0).length : Int) at c2
      have hiN : (ρ.i 41).toNat < es.length := by omega
      refine ⟨⟨I.good, I.c0, I.i20, ?_, ?_, ?_, ?_⟩, ?_⟩
      · show 0 ≤ ρ.i 41 + 1
        omega
      · show ρ.i 41 + 1 ≤ _
        omega
      · show ρ.c 6 ++ [[mkV .sls (den ρ (.tb (.get .sls 0) (.cv 0) (.iv 41) (.il 0))), .int .i64 ((den ρ ageT).i + ρ.i 20)]] = rfZ (tkZ n ((ls.zip es).take (ρ.i 41 + 1).toNat))
        rw [zs (by omega), tkZ_snoc, if_pos c1]
        unfold rfZ
        rw [List.map_append]
        have e6 := I.c6
        unfold rfZ at e6
        rw [← e6, ha, I.i20]
        congr 2
        show [slV (slV (((ρ.c 0).getD (ρ.i 41).toNat []).getD 0 (.bool false))), _] = _
        rw [I.c0, rfR_get hl hiN]
        show [slV (slV (sltV _ _ _)), _] = _
        rw [slV_slt, slV_slt]
      · show ((ρ.c 6).length : Int) + 1 = (((ρ.c 6 ++ [_] : Rws)).length : Int)
        rw [List.length_append, List.length_singleton]
        omega
      · show es.length - (ρ.i 41 + 1).toNat < es.length - (ρ.i 41).toNat
        omega
    · intro hpc β v
      have c1 := hpc.1
      have c2 := hpc.2.1
      rw [t_not, t_lt, i_sub, ha] at c1
      change ¬ ρ.i 20 < 30 - _ at c1
      rw [I.i20] at c1
      rw [t_lt] at c2
      change ρ.i 41 < ((ρ.c 0).length : Int) at c2
      refine ⟨⟨I.good, I.c0, I.i20, ?_, ?_, ?_, I.i42⟩, ?_⟩
      · show 0 ≤ ρ.i 41 + 1
        omega
      · show ρ.i 41 + 1 ≤ _
        omega
      · show ρ.c 6 = rfZ (tkZ n ((ls.zip es).take (ρ.i 41 + 1).toNat))
        rw [zs (by omega), tkZ_snoc, if_neg c1, List.append_nil]
        exact I.c6
      · show es.length - (ρ.i 41 + 1).toNat < es.length - (ρ.i 41).toNat
        omega
    · intro hpc β A w1 M
      have c2 := hpc.1
      rw [t_not, t_lt] at c2
      change ¬ ρ.i 41 < ((ρ.c 0).length : Int) at c2
      refine part_aft (B := ⟨ρ, rfW u a c, w, rfN u a c, 46⟩) (sp := []) I.good (fun q hq => by cases hq) rfl (.exit 0) (p := PT) (r := rkR2 Try.prog Try.f7) rfl rk_run2 ⟨?_, trivial⟩ M
      intro _ β A w2 M
      have hh := rk_hp2
      rw [Bool.and_eq_true] at hh
      refine ret_post (B := ⟨ρ, rfW u a c, w, rfN u a c, 46⟩) M (retsB_ok rk_ret2 rfl) ⟨?_, ?_⟩
      · show Value.int .i64 0 = _
        unfold tkE
        rw [if_neg (by omega)]
      · have B1 : Blk w2 (β 0) 28 [sltZ (β 60) (β 61) 2 0 (ρ.i 42).toNat 0] := M.hp _ (has_mem hh.1)
        have B2 : RowT w2 (β 60) (β 61) 64 rLv (ρ.c 6) := M.hp _ (has_mem hh.2)
        have z0 : β 0 = u := M.old 0 (show 0 < 46 by decide)
        have hall : (ls.zip es).take (ρ.i 41).toNat = ls.zip es := List.take_of_length_le (by rw [List.length_zip, hl]; omega)
        have e6 := I.c6
        rw [hall] at e6
        have eR : ρ.c 6 = rfR ((tkZ n (ls.zip es)).map fun x => x.1) ((tkZ n (ls.zip es)).map fun x => x.2) := by rw [rfZ_un, e6]
        have eE : tkL es n = (tkZ n (ls.zip es)).map fun x => x.2 := by
          unfold tkL
          rw [if_neg (by omega), tkZ_es hl]
        have i42 := I.i42
        rw [sltZ_zero, z0, i42, Int.toNat_natCast, eR] at B1
        rw [eR] at B2
        rw [eE]
        have at' : ∀ x ∈ tkZ n (ls.zip es), x.1 ∈ ls ∧ RowT w2 x.1.1 x.1.2 35 pkLv x.2.2 := fun x hx => by
          obtain ⟨y, hy, e1, e2⟩ := tkZ_mem hx
          obtain ⟨i, hi, rfl⟩ := List.getElem_of_mem hy
          rw [List.length_zip, hl, Nat.min_self] at hi
          rw [List.getElem_zip] at e1 e2
          rw [e1, e2]
          have := rf_row h M.only hi
          rw [List.getD_eq_getElem?_getD, List.getElem?_eq_getElem (by omega), getD_at hi] at this
          exact ⟨List.getElem_mem _, this⟩
        refine rf_go h M.only B1 B2 (fun hc => M.may _ (has_mem hh.2) rfl (.inr hc) _ (fp_root β _)) (by rw [List.length_map, List.length_map]) (fun i hi => ?_) fun x hx _ => ?_
        · rw [List.length_map] at hi
          have := (at' _ (List.getElem_mem hi)).2
          rw [List.getD_eq_getElem?_getD, List.getElem?_eq_getElem (by rw [List.length_map]; exact hi), List.getD_eq_getElem?_getD, List.getElem?_eq_getElem (by rw [List.length_map]; exact hi)]
          simp only [Option.getD_some, List.getElem_map]
          exact this
        · obtain ⟨y, hy, rfl⟩ := List.mem_map.1 hx
          exact .inl (at' y hy).1
end
end Go.Proofs.Ytnmfmjlpfhdgeaa
