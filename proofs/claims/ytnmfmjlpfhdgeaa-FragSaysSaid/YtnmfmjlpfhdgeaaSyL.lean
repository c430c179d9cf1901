/- The run with letters is sound: regions, statements, functions. -/
import Derived.Test.YtnmfmjlpfhdgeaaSyK
namespace Go.Proofs.Ytnmfmjlpfhdgeaa
namespace Sy
open Go Go.RowKit
set_option linter.unusedVariables false
set_option linter.unusedSimpArgs false

section
variable {P : Program} {ρ : Env} {sp : List Spec} {rec : Nat → Tk → St → Rs} {B : Bs} {Q : Exit → Act → World → Prop} {β : Bn} {a : Act} {w : World} {s : St} {r : List Lf} {n0 : Nat}

theorem held_SH {held : List Bk} (h1 : heldIn held s.hp = true) (h2 : heldLt B.n0 held = true) (hM : B.Md s β a w) : SH B held w := by
  intro b hb
  obtain ⟨x, hx, e⟩ := List.any_eq_true.1 (List.all_eq_true.1 h1 b hb)
  have e := sameBk_eq e
  have hlt := List.all_eq_true.1 h2 b hb
  simp only [Bool.and_eq_true] at hlt
  have := hM.hp x hx
  rw [← e] at this
  have hag : ∀ l, l < B.n0 → β l = B.β0 l := hM.old
  exact this.agree (hag _ (blt_lt hlt.1)).symm (fun _ => (hag _ (blt_lt hlt.2.1)).symm) (denL_agree B.ρ hag hlt.2.2).symm
theorem SH_hp {held : List Bk} (h2 : heldLt B.n0 held = true) (hM : B.Md s β a w) {w' : World} (h : SH B held w') : ∀ b ∈ held, BkOk B.ρ β w' b := by
  intro b hb
  have hlt := List.all_eq_true.1 h2 b hb
  simp only [Bool.and_eq_true] at hlt
  have hag : ∀ l, l < B.n0 → β l = B.β0 l := hM.old
  exact (h b hb).agree (hag _ (blt_lt hlt.1)) (fun _ => hag _ (blt_lt hlt.2.1)) (denL_agree B.ρ hag hlt.2.2)
theorem takeS_ok (hρ : B.ρ.good) {ops : Array Oper} {held : List Bk} {listed : Array Bool} {i : Nat} {o : Oper} {m : List Tm} {v : SV} (h : takeS P ops held listed s i = some (o, m, v)) (h2 : heldLt B.n0 held = true) (hM : B.Md s β a w) (hm : Met B.ρ m) :
    ops[i]? = some o ∧ Region.free .any ops listed i = true ∧ YieldsIf P ops (SH B held) o (v.den B.ρ β) a := by
  have hev : ∀ x v, opd s.tm x = some v → a.eval x = v.den B.ρ β := fun x v hx => Sy.Md.opd hM hx
  unfold takeS at h
  split at h
  · cases h
  · rename_i o' ho
    split at h
    · cases h
    · rename_i t ht
      have hw := wantS_ok hM ht
      split at h
      · rename_i hd
        have hd := dec0_ok hM.cx hd
        split at h
        · rename_i m' v' hq
          split at h
          · rename_i hfree
            injection h with h
            injection h with h1 h3
            injection h3 with h3 h4
            subst h1 h3 h4
            refine ⟨ho, hfree, .inl ⟨by rw [hw, hd], fun w' hS => ?_⟩⟩
            unfold quietS at hq
            split at hq
            · rename_i r' hp
              injection hq with hq
              subst hq
              exact pureS_ok hρ hM.cx hev hp hm w'
            · exact memB_ok hM.cx (SH_hp h2 hM hS) hev hq hm
          · cases h
        · cases h
      · rename_i hd
        have hd := dec0_ok hM.cx hd
        split at h
        · rename_i hfree
          injection h with h
          injection h with h1 h3
          injection h3 with h3 h4
          subst h1 h3 h4
          exact ⟨ho, hfree, .inr ⟨by rw [hw, hd], rfl⟩⟩
        · cases h
      · cases h
theorem findTake_ok {ops : Array Oper} {held : List Bk} {listed : Array Bool} : ∀ {l : List Nat} {i : Nat} {o : Oper} {m : List Tm} {v : SV}, findTake P ops held listed s l = some (i, o, m, v) → i ∈ l ∧ takeS P ops held listed s i = some (o, m, v)
  | [], _, _, _, _, h => by cases h
  | j :: l, i, o, m, v, h => by
    simp only [findTake] at h
    split at h
    · rename_i o' m' v' hq
      injection h with h
      injection h with h1 h2
      injection h2 with h2 h3
      injection h3 with h3 h4
      subst h1 h2 h3 h4
      exact ⟨List.mem_cons_self .., hq⟩
    · have := findTake_ok h
      exact ⟨List.mem_cons_of_mem _ this.1, this.2⟩
theorem put_undef {d : Option Tmp} (hM : B.Md s β a w) : B.Md (s.put d undS) β (a.put d undef) w := Md_put hM rfl
theorem not_true {t : Tm} (h : (den B.ρ t).b = false) : (den B.ρ (mkNot t)).b = true := by rw [mkNot_ok, h]; rfl
theorem oneRun_ok (hρ : ρ.good) (hrec : RecOk P ρ rec) (hBρ : B.ρ = ρ) (hB : B.n0 = n0) {ops : Array Oper} {held : List Bk} {listed : Array Bool} {k base i : Nat} (h : oneRun rec n0 ops held listed k base s i = .ok r) (hl : LOk B Q r)
    (h1 : heldIn held s.hp = true) (h2 : heldLt B.n0 held = true) (hns : Region.noSelect ops = true) (hM : B.Md s β a w) :
    wpOp P ops (NoPanic Q) i (fun a' w' => SH B held w' ∧ wpAnyH P .any ops (NoPanic Q) (SH B held) k (listed.setIfInBounds i true) a' w') a w := by
  unfold oneRun at h
  unfold wpOp
  split at h
  · cases h
  · rename_i o ho
    rw [ho]
    dsimp only
    split at h
    · cases h
    · rename_i t ht
      have hw := wantS_ok hM ht
      rw [hw]
      have yes : ∀ {s' : St} {r' : List Lf}, heldIn held s'.hp = true → B.Md s' β a w → LOk B Q r' → bindR (rec n0 (.op o (base + 2 * i)) s') (fun e s1 => match e with
          | .normal => if heldIn held s1.hp then rec n0 (.any ops held (listed.setIfInBounds i true) k base) s1 else .error ⟨"held", o.pos⟩
          | _ => .error ⟨"exit", ""⟩) = .ok r' →
          o.wp P a w (fun a' w' => SH B held w' ∧ wpAnyH P .any ops (NoPanic Q) (SH B held) k (listed.setIfInBounds i true) a' w') (NoPanic Q) := by
        intro s' r' hh hM' hl' hb
        obtain ⟨l', hl1, hbd⟩ := bindR_ok hb
        let Q1 : Exit → Act → World → Prop := fun e a' w' => e = .normal → SH B held w' ∧ wpAnyH P .any ops (NoPanic Q) (SH B held) k (listed.setIfInBounds i true) a' w'
        have hlk : LOk B Q1 l' := by
          refine bindL_ok (B := B) (B' := B) (Q := Q) rfl (fun s β a w h => ⟨β, a, h⟩) ?_ hbd hl'
          intro e s1 r1 hf hlr β1 a1 w1 hM1 he
          cases e with
          | exit n => cases hf
          | ret => cases hf
          | normal =>
            simp only [] at hf
            split at hf
            · rename_i hin
              exact ⟨held_SH hin h2 hM1, hrec n0 _ s1 r1 hf B Q hBρ hB ⟨hin, by rw [← hB]; exact h2, hns⟩ hlr β1 a1 w1 hM1⟩
            · cases hf
        have := hrec n0 (.op o (base + 2 * i)) s' l' hl1 B Q1 hBρ hB trivial hlk β a w hM'
        exact wp_weaken (fun a w h => h rfl) this
      have no : ∀ {s' : St} {r' : List Lf}, heldIn held s'.hp = true → B.Md s' β a w → LOk B Q r' → rec n0 (.any ops held (listed.setIfInBounds i true) k base) (s'.put o.dst undS) = .ok r' →
          SH B held w ∧ wpAnyH P .any ops (NoPanic Q) (SH B held) k (listed.setIfInBounds i true) (a.put o.dst undef) w := by
        intro s' r' hh hM' hl' hr
        exact ⟨held_SH hh h2 hM', hrec n0 _ _ r' hr B Q hBρ hB ⟨hh, by rw [← hB]; exact h2, hns⟩ hl' β _ w (put_undef hM')⟩
      simp only [] at h
      split at h
      · rename_i hd
        have hd := dec0_ok hM.cx hd
        rw [if_pos hd]
        exact .inl (yes h1 hM hl h)
      · rename_i hd
        have hd := dec0_ok hM.cx hd
        rw [if_neg (by rw [hd]; simp)]
        exact no h1 hM hl h
      · obtain ⟨x, y, hx, hy, rfl⟩ := appR_ok h
        cases hd : (den B.ρ t).b with
        | true =>
          rw [if_pos rfl]
          exact .inl (yes (s' := s.learn t) h1 (Sy.Md.learn hM hd) hl.l hx)
        | false =>
          rw [if_neg (by simp)]
          exact no (s' := s.learn (mkNot t)) h1 (Sy.Md.learn hM (not_true hd)) hl.r hy
theorem allRun_ok {ops : Array Oper} {held : List Bk} {listed : Array Bool} {k base : Nat} : ∀ {l : List Nat} {r : List Lf}, allRun rec n0 ops held listed k base s l = .ok r → LOk B Q r → ∀ i ∈ l, ∃ r', oneRun rec n0 ops held listed k base s i = .ok r' ∧ LOk B Q r'
  | [], _, _, _, _, hi => by cases hi
  | j :: l, r, h, hl, i, hi => by
    obtain ⟨x, y, hx, hy, rfl⟩ := appR_ok h
    rcases List.mem_cons.1 hi with rfl | hi
    · exact ⟨x, hx, hl.l⟩
    · exact allRun_ok hy hl.r i hi
theorem anyRun_ok (hρ : ρ.good) (hrec : RecOk P ρ rec) (hBρ : B.ρ = ρ) (hB : B.n0 = n0) {ops : Array Oper} {held : List Bk} {listed : Array Bool} {k base : Nat} (h : anyRun P rec n0 ops held listed k base s = .ok r) (hl : LOk B Q r)
    (h1 : heldIn held s.hp = true) (h2 : heldLt B.n0 held = true) (hns : Region.noSelect ops = true) (hM : B.Md s β a w) : wpAnyH P .any ops (NoPanic Q) (SH B held) k listed a w := by
  have hρ' : B.ρ.good := by rw [hBρ]; exact hρ
  unfold anyRun at h
  split at h
  · rename_i hr
    exact wpAnyH_done hr (NoPanic.normal (out1_ok h hl _ _ _ hM)) _
  · rename_i hne
    split at h
    · cases h
    · rename_i k'
      split at h
      · rename_i i o m v hf
        obtain ⟨hm, hM1, r', hr, hlr⟩ := mustL_ok h hl hM
        obtain ⟨hi, ht⟩ := findTake_ok hf
        obtain ⟨ho, hfree, hy⟩ := takeS_ok hρ' ht h2 hM hm
        have hhp : ∀ (m : List Tm) (s : St), (learnAll s m).hp = s.hp := by
          intro m
          induction m with
          | nil => intro s; rfl
          | cons t m ih => intro s; exact ih _
        refine wpAnyH_take ho hns hfree (by simpa using hi) (fun c a w h => h) hy (held_SH h1 h2 hM) ?_
        refine hrec n0 _ _ r' hr B Q hBρ hB ⟨?_, by rw [← hB]; exact h2, hns⟩ hlr β _ w (Md_put hM1 rfl)
        show heldIn held (learnAll s m).hp = true
        rw [hhp]
        exact h1
      · split at h
        · rename_i t _
          obtain ⟨x, y, hx, hy, rfl⟩ := appR_ok h
          have h2' := h2
          rw [hB] at h2'
          cases hd : (den B.ρ t).b with
          | true => exact hrec n0 _ (s.learn t) x hx B Q hBρ hB ⟨h1, h2', hns⟩ hl.l β a w (Sy.Md.learn hM hd)
          | false => exact hrec n0 _ (s.learn (mkNot t)) y hy B Q hBρ hB ⟨h1, h2', hns⟩ hl.r β a w (Sy.Md.learn hM (not_true hd))
        · unfold ddR at h
          split at h
          · rename_i l0 hall
            injection h with h
            subst h
            have hl0 := ddL_ok hl
            refine wpAnyH_all (rs := Region.ready .any ops listed) rfl (fun e => hne e) ?_
            intro i hi
            obtain ⟨r', hr', hlr'⟩ := allRun_ok hall hl0 i hi
            exact oneRun_ok hρ hrec hBρ hB hr' hlr' h1 h2 hns hM
          · cases h
theorem Md.drew (hM : B.Md s β a w) (n : Nat) : B.Md { s with nx := n } β a w.drew := ⟨hM.act, fun b hb => (hM.hp b hb).drew, hM.ne, hM.may, hM.cx, Only.drew hM.only, hM.old⟩
theorem regionRun_ok (hρ : ρ.good) (hrec : RecOk P ρ rec) (hBρ : B.ρ = ρ) (hB : B.n0 = n0) {id : Nat} {ops : Array Oper} (h : regionRun P rec n0 ops s = .ok r) (hl : LOk B Q r) (hM : B.Md s β a w) : (Code.region id ops true).wp P Q a w := by
  unfold regionRun at h
  split at h
  · rename_i q
    simp only [Bool.and_eq_true] at q
    have hn := Nat.le_of_ble_eq_true q.2.2
    rw [← hB] at hn
    have go : ∀ {held : List Bk}, (if heldIn held s.hp && heldLt s.nx held then rec s.nx (.any ops held (Array.replicate ops.size false) ops.size s.nx) { s with nx := s.nx + 2 * ops.size } else .error ⟨"held", ""⟩) = .ok r → (Code.region id ops true).wp P Q a w := by
      intro held hg
      split at hg
      · rename_i hh
        simp only [Bool.and_eq_true] at hh
        refine wp_region_noPanic (wp_region_held (S := SH (B.at β s.nx) held) q.1 ?_)
        have hM1 : (B.at β s.nx).Md { s with nx := s.nx + 2 * ops.size } β a w.drew := ⟨hM.act, fun b hb => (hM.hp b hb).drew, hM.ne, hM.may, hM.cx, Only.drew hM.only, fun _ _ => rfl⟩
        have hl1 : LOk (B.at β s.nx) Q r := by
          intro x hx
          have := hl x hx
          cases x with
          | must t s1 => exact fun β1 a1 w1 h1 => this β1 a1 w1 (Md.rebase hM hn h1)
          | out e s1 => exact fun β1 a1 w1 h1 => this β1 a1 w1 (Md.rebase hM hn h1)
        exact hrec s.nx _ _ r hg (B.at β s.nx) Q hBρ rfl ⟨hh.1, hh.2, q.2.1⟩ hl1 β a _ hM1
      · cases hg
    simp only [] at h
    split at h
    · rename_i l hg
      injection h with h
      subst h
      exact go hg
    · exact go h
  · cases h
theorem opsRun_ok (hρ : ρ.good) (hrec : RecOk P ρ rec) (hBρ : B.ρ = ρ) (hB : B.n0 = n0) {all : Array Oper} {l : List Oper} (h : opsRun rec n0 all l s = .ok r) (hl : LOk B Q r) (hM : B.Md s β a w) : wpList P all Q l a w := by
  unfold opsRun at h
  split at h
  · exact wpList_nil (out1_ok h hl _ _ _ hM)
  · rename_i o rest
    split at h
    · cases h
    · rename_i t ht
      have hw := wantS_ok hM ht
      unfold wpList
      rw [hw]
      have yes : ∀ {s' : St} {r' : List Lf}, B.Md s' β a w → LOk B Q r' → bindR (rec n0 (.op o s'.nx) s') (fun e s1 => match e with
          | .normal => rec n0 (.ops all rest) s1
          | _ => .error ⟨"exit", ""⟩) = .ok r' → o.wp P a w (wpList P all Q rest) Q := by
        intro s' r' hM' hl' hb
        obtain ⟨l', hl1, hbd⟩ := bindR_ok hb
        let Q1 : Exit → Act → World → Prop := fun e a' w' => e = .normal → wpList P all Q rest a' w'
        have hlk : LOk B Q1 l' := by
          refine bindL_ok (B := B) (B' := B) (Q := Q) rfl (fun s β a w h => ⟨β, a, h⟩) ?_ hbd hl'
          intro e s1 r1 hf hlr β1 a1 w1 hM1 he
          cases e with
          | exit n => cases hf
          | ret => cases hf
          | normal => exact hrec n0 (.ops all rest) s1 r1 hf B Q hBρ hB trivial hlr β1 a1 w1 hM1
        have := hrec n0 (.op o s'.nx) s' l' hl1 B Q1 hBρ hB trivial hlk β a w hM'
        exact wp_weaken (fun a w h => h rfl) this
      have no : ∀ {s' : St} {r' : List Lf}, B.Md s' β a w → LOk B Q r' → rec n0 (.ops all rest) (s'.put o.dst undS) = .ok r' → wpList P all Q rest (a.put o.dst undef) w := by
        intro s' r' hM' hl' hr
        exact hrec n0 (.ops all rest) _ r' hr B Q hBρ hB trivial hl' β _ w (put_undef hM')
      simp only [] at h
      split at h
      · rename_i hd
        have hd := dec0_ok hM.cx hd
        rw [if_pos hd]
        exact .inl (yes hM hl h)
      · rename_i hd
        have hd := dec0_ok hM.cx hd
        rw [if_neg (by rw [hd]; simp)]
        exact no hM hl h
      · obtain ⟨x, y, hx, hy, rfl⟩ := appR_ok h
        cases hd : (den B.ρ t).b with
        | true =>
          rw [if_pos rfl]
          exact .inl (yes (s' := s.learn t) (Sy.Md.learn hM hd) hl.l hx)
        | false =>
          rw [if_neg (by simp)]
          exact no (s' := s.learn (mkNot t)) (Sy.Md.learn hM (not_true hd)) hl.r hy
theorem noGoto_to {e : Ex} {a : Act} {w : World} (h : Q e.to a w) : Exit.noGoto Q e.to a w := by cases e <;> exact h
theorem codeRun_ok (hρ : ρ.good) (hrec : RecOk P ρ rec) (hBρ : B.ρ = ρ) (hB : B.n0 = n0) {lim : Nat} {c : Code} (h : codeRun P lim rec n0 c s = .ok r) (hl : LOk B Q r) (hM : B.Md s β a w) : c.wp P Q a w := by
  unfold codeRun at h
  split at h
  · exact Go.wp_skip (out1_ok h hl _ _ _ hM)
  · exact wp_label (out1_ok h hl _ _ _ hM)
  · exact wp_ret (end_ok (e := .ret) h hl _ _ _ hM)
  · rename_i n
    exact wp_exit (end_ok (e := .exit n) h hl _ _ _ hM)
  · rename_i x y
    obtain ⟨l', hl1, hbd⟩ := bindR_ok h
    refine wp_seq (hrec n0 (.code x) s l' hl1 B (Exit.then (y.wp P Q) Q) hBρ hB trivial ?_ β a w hM)
    refine bindL_ok (B := B) (B' := B) (Q := Q) rfl (fun s β a w h => ⟨β, a, h⟩) ?_ hbd hl
    intro e s1 r1 hf hlr β1 a1 w1 hM1
    cases e with
    | normal => exact hrec n0 (.code y) s1 r1 hf B Q hBρ hB trivial hlr β1 a1 w1 hM1
    | exit n => exact end_ok (e := .exit n) hf hlr _ _ _ hM1
    | ret => exact end_ok (e := .ret) hf hlr _ _ _ hM1
  · rename_i id c'
    obtain ⟨l', hl1, hbd⟩ := bindR_ok h
    refine wp_block (hrec n0 (.code c') s l' hl1 B (Exit.inBlock id Q) hBρ hB trivial ?_ β a w hM)
    refine bindL_ok (B := B) (B' := B) (Q := Q) rfl (fun s β a w h => ⟨β, a, h⟩) ?_ hbd hl
    intro e s1 r1 hf hlr β1 a1 w1 hM1
    cases e with
    | normal => exact end_ok (e := .normal) hf hlr _ _ _ hM1
    | ret => exact end_ok (e := .ret) hf hlr _ _ _ hM1
    | exit n =>
      simp only [] at hf
      show (if n = id then Q .normal a1 w1 else Q (.exit n) a1 w1)
      split at hf
      · rename_i q
        rw [if_pos (Nat.eq_of_beq_eq_true q)]
        exact out1_ok hf hlr _ _ _ hM1
      · rename_i q
        rw [if_neg (fun e => q (by rw [e]; exact Nat.beq_refl _))]
        exact end_ok (e := .exit n) hf hlr _ _ _ hM1
  · rename_i c'
    refine wp_scope_straight (hrec n0 (.code c') s r h B (Exit.noGoto Q) hBρ hB trivial ?_ β a w hM)
    intro x hx
    have := hl x hx
    cases x with
    | must t s1 => exact this
    | out e s1 => exact fun β1 a1 w1 h1 => noGoto_to (this β1 a1 w1 h1)
  · rename_i x c1 c2
    split at h
    · rename_i t ht
      have he : a.eval x = .bool (den B.ρ t).b := Sy.Md.opd hM ht
      split at h
      · rename_i hd
        refine wp_cond_true (by rw [he, dec0_ok hM.cx hd]) ?_
        exact hrec n0 (.code c1) s r h B Q hBρ hB trivial hl β a w hM
      · rename_i hd
        refine wp_cond_false (by rw [he, dec0_ok hM.cx hd]) ?_
        exact hrec n0 (.code c2) s r h B Q hBρ hB trivial hl β a w hM
      · obtain ⟨x, y, hx, hy, rfl⟩ := appR_ok h
        refine wp_cond_split he (fun hd => ?_) (fun hd => ?_)
        · exact hrec n0 (.code c1) _ x hx B Q hBρ hB trivial hl.l β a w (Sy.Md.learn hM hd)
        · exact hrec n0 (.code c2) _ y hy B Q hBρ hB trivial hl.r β a w (Sy.Md.learn hM (not_true hd))
    · cases h
  · rename_i id ops draw
    split at h
    · rename_i hd
      rw [hd]
      exact regionRun_ok hρ hrec hBρ hB h hl hM
    · rename_i hd
      rw [show draw = false from by simpa using hd]
      exact wp_region_list (hrec n0 (.ops ops ops.toList) s r h B Q hBρ hB trivial hl β a w hM)
  · rename_i c'
    exact wp_loop_rounds lim (hrec n0 (.rounds c' lim) s r h B Q hBρ hB trivial hl β a w hM)
  · cases h
theorem roundsRun_ok (hrec : RecOk P ρ rec) (hBρ : B.ρ = ρ) (hB : B.n0 = n0) {c : Code} {k : Nat} (h : roundsRun rec n0 c k s = .ok r) (hl : LOk B Q r) (hM : B.Md s β a w) : Code.rounds P c Q k a w := by
  unfold roundsRun at h
  split at h
  · cases h
  · rename_i n
    obtain ⟨l', hl1, hbd⟩ := bindR_ok h
    rw [rounds_succ]
    refine hrec n0 (.code c) s l' hl1 B (Exit.then (Code.rounds P c Q n) Q) hBρ hB trivial ?_ β a w hM
    refine bindL_ok (B := B) (B' := B) (Q := Q) rfl (fun s β a w h => ⟨β, a, h⟩) ?_ hbd hl
    intro e s1 r1 hf hlr β1 a1 w1 hM1
    cases e with
    | normal => exact hrec n0 (.rounds c n) s1 r1 hf B Q hBρ hB trivial hlr β1 a1 w1 hM1
    | exit n => exact end_ok (e := .exit n) hf hlr _ _ _ hM1
    | ret => exact end_ok (e := .ret) hf hlr _ _ _ hM1
end
theorem run_ok {P : Program} {ρ : Env} {sp : List Spec} (hρ : ρ.good) (hsp : ∀ q ∈ sp, q.Ok P ρ) (lim : Nat) : ∀ n, RecOk P ρ (run P sp lim n)
  | 0 => by
    intro n0 tk s r h
    simp only [run] at h
    cases h
  | n + 1 => by
    have ih := run_ok hρ hsp lim n
    intro n0 tk s r h B Q hBρ hB hpre hl β a w hM
    cases tk with
    | code c => exact codeRun_ok hρ ih hBρ hB h hl hM
    | ops all l => exact opsRun_ok hρ ih hBρ hB h hl hM
    | op o i => exact opRun_ok hρ hsp ih hBρ hB h hl hM
    | any os held listed k base => exact anyRun_ok hρ ih hBρ hB h hl hpre.1 (by rw [hB]; exact hpre.2.1) hpre.2.2 hM
    | rounds c k => exact roundsRun_ok ih hBρ hB h hl hM

/-! A function. -/
/-- What a leaf of a function's run asks. -/
def Lf.done (P : Program) (fn : Func) (B : Bs) (R : Value → World → Prop) : Lf → Prop
  | .must t s => ∀ β a w, B.Md s β a w → (den B.ρ t).b = true
  | .out e s => match e, retS P s fn.results.toList with
    | .exit _, _ => False
    | _, some v => ∀ β a w, B.Md s β a w → R (v.den B.ρ β) w
    | _, none => False
def AllL {α : Type} (p : α → Prop) : List α → Prop
  | [] => True
  | x :: l => p x ∧ AllL p l
theorem AllL_mem {α : Type} {p : α → Prop} : ∀ {l : List α}, AllL p l → ∀ x ∈ l, p x
  | [], _, _, h => by cases h
  | y :: l, h, x, hx => by
    rcases List.mem_cons.1 hx with rfl | hx
    · exact h.1
    · exact AllL_mem h.2 x hx
/-- THE LAW: a function is run with letters; what its leaves ask is shown. -/
theorem calls_run {P : Program} {B : Bs} {sp : List Spec} (hρ : B.ρ.good) (hsp : ∀ q ∈ sp, q.Ok P B.ρ) (lim fuel : Nat) {f : FuncId} {fn : Func} {c : Code} (hf : P.funcs[f]? = some fn) (hb : fn.body = some c) {xs : List SV} {s : St} {l : List Lf}
    (hrun : run P sp lim fuel B.n0 (.code c) (enterS fn xs s) = .ok l) {β : Bn} {w : World} (hM : B.Md { s with tm := [] } β ⟨#[], []⟩ w) {R : Value → World → Prop} (hR : AllL (Lf.done P fn B R) l)
    {args : Array Value} (hargs : args = (xs.map (SV.den B.ρ β)).toArray) : Calls P f args w fun e w' => ∃ v, e = .returned v ∧ R v w' := by
  subst hargs
  refine calls_of_wp hf hb ?_
  have hact : (⟨(xs.map (SV.den B.ρ β)).toArray ++ Array.replicate (fn.ntmps - (xs.map (SV.den B.ρ β)).toArray.size) undef, []⟩ : Act) = ⟨((enterS fn xs s).tm.map (SV.den B.ρ β)).toArray, []⟩ := by
    simp [enterS, undS_den]
  rw [hact]
  refine run_ok hρ hsp lim fuel B.n0 (.code c) (enterS fn xs s) l hrun B _ rfl rfl trivial ?_ β _ w ⟨rfl, hM.hp, hM.ne, hM.may, hM.cx, hM.only, hM.old⟩
  intro x hx
  have hd := AllL_mem hR x hx
  cases x with
  | must t s1 => exact hd
  | out e s1 =>
    intro β1 a1 w1 h1
    unfold Lf.done at hd
    have fin : ∀ v, retS P s1 fn.results.toList = some v → R (v.den B.ρ β1) w1 → a1.defers = [] ∧ ∃ u, (results fn a1.tmps).run P w1 = .ok u w1 ∧ ∃ v, Ending.returned u = .returned v ∧ R v w1 :=
      fun v hv hr => ⟨by rw [h1.act], v.den B.ρ β1, retS_ok h1 hv, _, rfl, hr⟩
    cases e with
    | exit n => exact hd.elim
    | normal =>
      cases hv : retS P s1 fn.results.toList with
      | none => simp only [hv] at hd
      | some v => simp only [hv] at hd; exact fin v hv (hd β1 a1 w1 h1)
    | ret =>
      cases hv : retS P s1 fn.results.toList with
      | none => simp only [hv] at hd
      | some v => simp only [hv] at hd; exact fin v hv (hd β1 a1 w1 h1)
#print axioms calls_run
end Sy
end Go.Proofs.Ytnmfmjlpfhdgeaa
