/- Rows of bytes that grow: append, whatever the source. -/
import Derived.Test.YtnmfmjlpfhdgeaaSyI
import Derived.Test.YtnmfmjlpfhdgeaaOwn
import Derived.Maps.AppendAt
import Derived.Lib.AppendStr
import Derived.Lib.ConvBytes
namespace Go.Proofs.Ytnmfmjlpfhdgeaa
namespace Sy
open Go Go.RowKit
set_option linter.unusedVariables false
set_option linter.unusedSimpArgs false

theorem cells8'_one (l : List UInt8) : ∀ u ∈ cells8' l, u.oneCell' = true := fun u hu => by
  obtain ⟨b, _, rfl⟩ := List.mem_map.1 hu
  rfl
def rowOf (g c : Nat) : Option Nat := if c = 0 then none else some g
theorem slrV_own (g c n : Nat) : (slrV g c 0 n).ownBlock = rowOf g c := by
  unfold slrV rowOf
  split <;> rfl
theorem slrV_some {g c n : Nat} (h : c ≠ 0) : slrV g c 0 n = .slice (some ⟨g, 0, none⟩) n c := by
  unfold slrV
  rw [if_neg h, if_neg h]
  rfl
section
variable {w w' : World} {g c n : Nat} {e : TypeId} {bs : List UInt8}
theorem RowB.owns (h : RowB w g c e true bs) (hn : n = bs.length) : w.ownsRow 0 e 1 (slrV g c 0 n) n (cells8' bs) := by
  refine ⟨by rw [cells8'_len, hn, Nat.mul_one], ?_⟩
  have hl := h.len
  by_cases hc : c = 0
  · refine .inl ⟨by unfold slrV; rw [if_pos hc], by omega⟩
  · obtain ⟨cur, fr, h1, h2, h3, h4, h5⟩ := h.row hc
    have hfr : fr = (0, 0) := h2.resolve_right (by simp)
    subst hfr
    exact .inr ⟨g, c, cur, slrV_some hc, Nat.zero_le _, h1, by omega, h4, by omega, by rw [Nat.mul_one, hn]; exact h5⟩
theorem RowB.of_own {v : Value} (h : w.ownsRow 0 e 1 v n (cells8' bs)) (hv : v = .slice (some ⟨g, 0, none⟩) n c) : RowB w g c e true bs := by
  subst hv
  have hn : bs.length = n := by have := h.1; rw [cells8'_len] at this; omega
  rcases h.2 with ⟨h1, _⟩ | ⟨g', c', cur, h1, _, h2, h3, h4, h5, h6⟩
  · cases h1
  · injection h1 with e1 e2 e3
    injection e1 with e1
    injection e1 with e1
    subst e1 e3
    refine ⟨fun _ => ⟨cur, (0, 0), h2, .inl rfl, by omega, h4, ?_⟩, by omega⟩
    rw [hn]
    rw [Nat.mul_one] at h6
    exact h6
theorem RowB.none_ (w : World) (g : Nat) (e : TypeId) (own : Bool) : RowB w g 0 e own [] := ⟨fun h => absurd rfl h, Nat.le_refl _⟩
/-- What an append onto a row leaves. -/
structure Grown (w w' : World) (g c : Nat) (e : TypeId) (bs : List UInt8) (g' c' : Nat) (own : Bool := true) : Prop where
  row : RowB w' g' c' e own bs
  by_ : w.grownBy w' (rowOf g c)
  at_ : c' = 0 ∨ (c ≠ 0 ∧ g' = g) ∨ g' = w.heap.size
end
theorem strCells_eq (s : ByteArray) : Lib.strCells s = cells8' s.data.toList := rfl
section
variable {P : Program} {w : World} {g c : Nat} {t u ty e : TypeId} {i : TypeInfo} {bs : List UInt8}
theorem ok_val {x y : Value} {w1 w2 : World} {r : Result Value} (h : r = .ok x w1) (k : r = .ok y w2) : x = y := by rw [h] at k; injection k
theorem app_str (ht : P.underlying t = some (.slice e)) (hu : P.underlying u = some .string) (hi : P.info? e = some i) (hz : i.zero = some (.int .u8 0)) (hsize : i.size = 1) (hby : i.bytes = 1)
    (h : RowB w g c e true bs) (s : ByteArray) (hb : bs.length + s.size ≤ 140737488355328) :
    ∃ g' c' w', (Builtin.append_ #[t, u] ty #[slrV g c 0 bs.length, .string s]).run P w = .ok (slrV g' c' 0 (bs.length + s.size)) w' ∧ Grown w w' g c e (bs ++ s.data.toList) g' c' := by
  have h63 : bs.length + s.size ≤ maxLen := by simp only [maxLen]; omega
  obtain ⟨v', w', hrun, h2, h3, h4⟩ := Lib.run_append_own_string (P := P) w 0 t u ty e i ht hu hi hz hsize hby _ _ _ (h.owns rfl) s h63 hb (Nat.zero_le _)
  rw [strCells_eq, ← cells8'_app] at h2
  rw [slrV_own] at h3
  have hlen := h.len
  by_cases hc : c = 0
  · have hn : bs.length = 0 := by omega
    by_cases hm : s.size = 0
    · have hv := h4.2 ⟨by unfold slrV; rw [if_pos hc], hm⟩
      refine ⟨0, 0, w', by rw [hrun, hv]; rfl, ⟨?_, h3, .inl rfl⟩⟩
      have e1 : bs ++ s.data.toList = [] := by
        rw [List.eq_nil_of_length_eq_zero hn]
        exact List.eq_nil_of_length_eq_zero hm
      rw [e1]
      exact RowB.none_ ..
    · have hr := run_append_nil_string (P := P) w t u ty e i (.int .u8 0) ht hu hi hz s (by omega) (by omega) (by rw [hby]; omega)
      have hv : v' = .slice (some ⟨w.heap.size, 0, none⟩) s.size (grownCap w s.size 0 e) := by
        rw [show slrV g c 0 bs.length = .slice none 0 0 from by unfold slrV; rw [if_pos hc]] at hrun
        exact ok_val hrun hr
      rw [show bs.length + s.size = s.size from by omega] at h2 ⊢
      have hge := grownCap_ge w s.size 0 e
      refine ⟨w.heap.size, grownCap w s.size 0 e, w', by rw [hrun, hv, slrV_some (by omega)], ⟨RowB.of_own h2 hv, h3, .inr (.inr rfl)⟩⟩
  · obtain ⟨cur, fr, r1, r2, r3, r4, r5⟩ := h.row hc
    have hfr : fr = (0, 0) := r2.resolve_right (by simp)
    subst hfr
    by_cases hroom : bs.length + s.size ≤ c
    · have hr := Lib.run_append_room_string (P := P) w t u ty e i ht hu hi hsize g bs.length c cur r1 s hroom (by omega)
      rw [slrV_some hc] at hrun ⊢
      have hv := ok_val hrun hr
      exact ⟨g, c, w', by rw [hrun, hv, slrV_some hc], ⟨RowB.of_own h2 hv, h3, .inr (.inl ⟨hc, rfl⟩)⟩⟩
    · have hcell : ∀ j u, (cells8' bs)[j]? = some u → w.cell? ((⟨g, 0, none⟩ : Addr).add j) = some u := (h.owns rfl).cells (g := g) (by rw [slrV_own]; unfold rowOf; rw [if_neg hc])
      have hr := Lib.run_append_grow_string (P := P) w t u ty e i (.int .u8 0) ht hu hi hz ⟨g, 0, none⟩ bs.length c (cells8' bs) (by rw [hsize, cells8'_len, Nat.mul_one]) hcell s (by omega) (by omega) (by rw [hby]; exact growslice_fits (by omega) (by omega))
      rw [slrV_some hc] at hrun ⊢
      have hv := ok_val hrun hr
      have hge := grownCap_ge w (bs.length + s.size) c e
      exact ⟨w.heap.size, _, w', by rw [hrun, hv, slrV_some (by omega)], ⟨RowB.of_own h2 hv, h3, .inr (.inr rfl)⟩⟩
theorem app_slc (ht : P.underlying t = some (.slice e)) (hi : P.info? e = some i) (hz : i.zero = some (.int .u8 0)) (hsize : i.size = 1) (hby : i.bytes = 1)
    (h : RowB w g c e true bs) {A : Option Addr} {m k : Nat} {ns : List UInt8} (hr : Reads w w.heap.size 1 A m (cells8' ns)) (hb : bs.length + m ≤ 140737488355328) :
    ∃ g' c' w', (Builtin.append_ #[t, t] ty #[slrV g c 0 bs.length, .slice A m k]).run P w = .ok (slrV g' c' 0 (bs.length + m)) w' ∧ Grown w w' g c e (bs ++ ns) g' c' := by
  have hnl : ns.length = m := by have := hr.1; rw [cells8'_len] at this; omega
  have h63 : bs.length + m ≤ maxLen := by simp only [maxLen]; omega
  have hlen := h.len
  rcases A with _ | ad
  · have hm : m = 0 := by
      rcases Nat.eq_zero_or_pos m with h0 | h0
      · exact h0
      · obtain ⟨ad, h, _⟩ := hr.2 h0
        cases h
    subst hm
    have hn : ns = [] := List.eq_nil_of_length_eq_zero hnl
    subst hn
    refine ⟨g, c, w, run_append_of_nil w 0 t ty e i 1 ht hi _ _ _ (h.owns rfl) k, ⟨by rw [List.append_nil]; exact h, World.grownBy.refl w _, ?_⟩⟩
    by_cases hc : c = 0
    · exact .inl hc
    · exact .inr (.inl ⟨hc, rfl⟩)
  · have hcells : ∀ j u, (cells8' ns)[j]? = some u → w.cell? (ad.add j) = some u := by
      intro j u hu
      rcases Nat.eq_zero_or_pos m with h0 | h0
      · have hn : ns = [] := List.eq_nil_of_length_eq_zero (by omega)
        subst hn
        simp [cells8'] at hu
      · obtain ⟨ad', h, _, hc⟩ := hr.2 h0
        injection h with h
        subst h
        exact hc j u hu
    have hlm : (cells8' ns).length = m * i.size := by rw [cells8'_len, hsize, Nat.mul_one, hnl]
    obtain ⟨v', w', hrun, h2, h3, h4, h5⟩ := run_append_own_at (P := P) w 0 t ty e i (.int .u8 0) 1 1 ht hi hz hsize hby rfl (by omega) _ _ _ (h.owns rfl) ad m k (cells8' ns) (by rw [cells8'_len]; omega) hcells (cells8'_one ns) h63 (by omega) (Nat.zero_le _)
    rw [← cells8'_app] at h2
    rw [slrV_own] at h3
    by_cases hc : c = 0
    · have hn : bs.length = 0 := by omega
      by_cases hm : m = 0
      · have hv := h4.2 ⟨by unfold slrV; rw [if_pos hc], hm⟩
        refine ⟨0, 0, w', by rw [hrun, hv]; rfl, ⟨?_, h3, .inl rfl⟩⟩
        rw [List.eq_nil_of_length_eq_zero hn, List.eq_nil_of_length_eq_zero (hnl.trans hm)]
        exact RowB.none_ ..
      · have hr := run_append_nil (P := P) w t ty e i (.int .u8 0) ht hi hz ad m k (cells8' ns) hlm hcells (by omega) (by omega) (by rw [hby]; omega)
        have hv : v' = .slice (some ⟨w.heap.size, 0, none⟩) m (grownCap w m 0 e) := by
          rw [show slrV g c 0 bs.length = .slice none 0 0 from by unfold slrV; rw [if_pos hc]] at hrun
          exact ok_val hrun hr
        rw [show bs.length + m = m from by omega] at h2 ⊢
        have hge := grownCap_ge w m 0 e
        refine ⟨w.heap.size, grownCap w m 0 e, w', by rw [hrun, hv, slrV_some (by omega)], ⟨RowB.of_own h2 hv, h3, .inr (.inr rfl)⟩⟩
    · obtain ⟨cur, fr, r1, r2, r3, r4, r5⟩ := h.row hc
      have hfr : fr = (0, 0) := r2.resolve_right (by simp)
      subst hfr
      by_cases hroom : bs.length + m ≤ c
      · have hr := run_append_room (P := P) w t ty e i ht hi g bs.length c cur r1 ad m k (cells8' ns) hlm hcells (cells8'_one ns) hroom (by rw [hsize, cells8'_len]; omega)
        rw [slrV_some hc] at hrun ⊢
        have hv := ok_val hrun hr
        exact ⟨g, c, w', by rw [hrun, hv, slrV_some hc], ⟨RowB.of_own h2 hv, h3, .inr (.inl ⟨hc, rfl⟩)⟩⟩
      · have hcell : ∀ j u, (cells8' bs)[j]? = some u → w.cell? ((⟨g, 0, none⟩ : Addr).add j) = some u := (h.owns rfl).cells (g := g) (by rw [slrV_own]; unfold rowOf; rw [if_neg hc])
        have hr := run_append_grow (P := P) w t ty e i (.int .u8 0) ht hi hz ⟨g, 0, none⟩ bs.length c (cells8' bs) (by rw [hsize, cells8'_len, Nat.mul_one]) hcell ad m k (cells8' ns) hlm hcells (by omega) (by omega) (by rw [hby]; exact growslice_fits (by omega) (by omega))
        rw [slrV_some hc] at hrun ⊢
        have hv := ok_val hrun hr
        have hge := grownCap_ge w (bs.length + m) c e
        exact ⟨w.heap.size, _, w', by rw [hrun, hv, slrV_some (by omega)], ⟨RowB.of_own h2 hv, h3, .inr (.inr rfl)⟩⟩
end

/-! With letters. -/
def zero8 : Option Value → Bool
  | some (.int .u8 n) => leI 0 n && leI n 0
  | _ => false
theorem zero8_ok {z : Option Value} (h : zero8 z = true) : z = some (.int .u8 0) := by
  unfold zero8 at h
  split at h
  · rename_i n
    simp only [Bool.and_eq_true, leI, decide_eq_true_eq] at h
    rw [show n = 0 from by omega]
  · cases h
/-- What is appended. -/
def srcS (P : Program) (c : Cx) (hp : List Bk) (t u : TypeId) : SV → Option (List Tm × Tm)
  | .one (.c (.str s)) => match P.underlying u with
    | some .string => some ([], s)
    | _ => none
  | .one (.c .nslc) => if Nat.beq t u then some ([], .sl []) else none
  | .one (.c (.slc l off len cap)) => match find l hp, isLit len with
    | some b, some n => match b.str with
      | none => if Nat.beq t u && (Nat.ble (off + n.toNat) b.cs.length && b.x.isNo) then (cellBytes c ((b.cs.drop off).take n.toNat)).map fun s => ([], s) else none
      | some _ => none
    | _, _ => none
  | .one (.c (.slr l off len an)) => match rowFind hp l with
    | some s => if Nat.beq t u then some (inRow c s off len, mkCut c s off (mkAdd off len)) else none
    | none => none
  | _ => none
/-- Onto what. -/
def baseS' (c : Cx) (hp : List Bk) (e : TypeId) : SV → Option (List Tm × Option Nat × Tm)
  | .one (.c .nslc) => some ([], none, .sl [])
  | .one (.c (.slr l off len an)) => match find l hp with
    | some b => match b.str with
      | some s => if b.rw && (b.cs.isEmpty && (Nat.beq b.ty e && same off (.il 0))) then some (need c (.le len (mkLen c s)) ++ need c (.le (mkLen c s) len), some l, s) else none
      | none => none
    | none => none
  | _ => none
def growS (P : Program) (c : Cx) (hp : List Bk) (ev : Operand → Option SV) (k : Call) : Option (List Tm × Option Nat × TypeId × Tm) :=
  match k.callee, k.args.toList, k.argTypes.toList with
  | .builtin .append, [x, y], [t, u] =>
    match ev x, ev y, P.underlying t with
    | some xv, some yv, some (.slice e) =>
      match P.info? e with
      | some i =>
        if Nat.beq i.size 1 && (Nat.beq i.bytes 1 && zero8 i.zero) then
          match baseS' c hp e xv, srcS P c hp t u yv with
          | some (m1, old, s), some (m2, r) => some (m1 ++ (m2 ++ need c (.le (mkLen c (mkApp s r)) (.il 140737488355328))), old, e, mkApp s r)
          | _, _ => none
        else none
      | none => none
    | _, _, _ => none
  | _, _, _ => none
/-- The state with the row grown: the letter n, and n + 1 for its capacity. -/
def ownCs : Bool → List C
  | true => []
  | false => [.nptr]
theorem ownCs_e (o : Bool) : (ownCs o).isEmpty = o := by cases o <;> rfl
def St.grow (s : St) (n : Nat) (e : TypeId) (old : Option Nat) (str : Tm) (own : Bool := true) : St :=
  { s with hp := insBk ⟨n, e, ownCs own, true, some str, .no⟩ (match old with | some l => s.hp.filter fun b => !(Nat.beq b.l l) | none => s.hp), nx := max s.nx (n + 2) }
theorem grow_mem {s : St} {n : Nat} {e : TypeId} {old : Option Nat} {str : Tm} {own : Bool} {x : Bk} (h : x ∈ (s.grow n e old str own).hp) : x = ⟨n, e, ownCs own, true, some str, .no⟩ ∨ (x ∈ s.hp ∧ old ≠ some x.l) := by
  rcases mem_ins h with h | h
  · exact .inl h
  · refine .inr ?_
    cases old with
    | none => exact ⟨h, by simp⟩
    | some l =>
      have := List.mem_filter.1 h
      refine ⟨this.1, fun e => ?_⟩
      injection e with e
      rw [e, Nat.beq_refl] at this
      simp at this
theorem Md.grow {ρ : Env} {β : Bn} {S : Nat → Prop} {w0 w w' : World} {β0 : Bn} {n0 : Nat} {s : St} {a : Act} (hM : Md ρ S w0 β0 n0 s β a w) (n : Nat) (hn : n0 ≤ n) (hf : s.free n = true) (hf1 : s.free (n + 1) = true)
    {g c g' c' : Nat} {e : TypeId} {bs : List UInt8} {own : Bool} (hG : Grown w w' g c e bs g' c' own) {old : Option Nat} {str : Tm} (hstr : (den ρ str).s.data.toList = bs)
    (ho : c = 0 ∨ ∃ b ∈ s.hp, old = some b.l ∧ b.rw = true ∧ b.real β ∧ g = β b.l) : Md ρ S w0 β0 n0 (s.grow n e old str own) (upd (upd β n g') (n + 1) c') a w' := by
  unfold St.free at hf hf1
  simp only [Bool.and_eq_true, List.all_eq_true, Bool.not_eq_true'] at hf hf1
  have old2 : ∀ b ∈ s.hp, (upd (upd β n g') (n + 1) c') b.l = β b.l ∧ (upd (upd β n g') (n + 1) c') (b.l + 1) = β (b.l + 1) ∧ denL ρ (upd (upd β n g') (n + 1) c') b.cs = denL ρ β b.cs := fun b hb =>
    ⟨(upd_old (beq_ne (hf1.2 b hb).1)).trans (upd_old (beq_ne (hf.2 b hb).1)), (upd_old (beq_ne (hf1.2 b hb).2.2)).trans (upd_old (beq_ne (hf.2 b hb).2.2)), (denL_upd ρ (hf1.2 b hb).2.1).trans (denL_upd ρ (hf.2 b hb).2.1)⟩
  have oldr : ∀ b ∈ s.hp, b.real (upd (upd β n g') (n + 1) c') → b.real β := fun b hb hr => hr.imp id (fun h => by rw [← (old2 b hb).2.1]; exact h)
  have e1 : (upd (upd β n g') (n + 1) c') n = g' := (upd_old (by omega)).trans (upd_new ..)
  have e2 : (upd (upd β n g') (n + 1) c') (n + 1) = c' := upd_new ..
  -- the new block is none of the others
  have apart : ∀ y ∈ s.hp, old ≠ some y.l → y.real β → c' ≠ 0 → ∀ i, fp β y i → g' ≠ i := by
    intro y hy hne hry hc' i hi
    have hlt := (hM.hp y hy).fplt hry hi
    rcases hG.at_ with h | ⟨h1, h2⟩ | h
    · exact absurd h hc'
    · rcases ho with h | ⟨b, hb, hob, _, hbr, hgb⟩
      · exact absurd h h1
      · rw [h2, hgb]
        exact fun e => hM.ne b hb y hy (fun e => hne (by rw [hob, e])) hbr hry i (e ▸ fp_root β b) hi
    · omega
  refine ⟨?_, ?_, ?_, ?_, hM.cx, ?_, ?_⟩
  · rw [hM.act]
    congr 2
    apply List.map_congr_left
    intro x hx
    exact ((SV.den_upd ρ (hf1.1 x hx)).trans (SV.den_upd ρ (hf.1 x hx))).symm
  · intro x hx
    rcases grow_mem hx with rfl | ⟨hx, hne⟩
    · show RowB w' ((upd (upd β n g') (n + 1) c') n) ((upd (upd β n g') (n + 1) c') (n + 1)) e (ownCs own).isEmpty (den ρ str).s.data.toList
      rw [e1, e2, hstr, ownCs_e]
      exact hG.row
    · refine BkOk.agree ((hM.hp x hx).keep fun hr i hi hlt => hG.by_.block _ hlt ?_) (old2 x hx).1 (fun _ => (old2 x hx).2.1) (old2 x hx).2.2
      unfold rowOf
      rcases ho with h | ⟨b, hb, hob, _, hbr, hgb⟩
      · rw [if_pos h]; simp
      · split
        · simp
        · intro he
          injection he with he
          exact hM.ne x hx b hb (fun e => hne (by rw [hob, e])) hr hbr i hi (by rw [he, hgb]; exact fp_root β b)
  · intro x hx y hy hne hrx hry
    rcases grow_mem hx with rfl | ⟨hx, hnx⟩ <;> rcases grow_mem hy with rfl | ⟨hy, hny⟩
    · exact absurd rfl hne
    · intro i ix iy
      have e := fp_one rfl ix
      rw [show i = g' from e.trans e1] at iy
      refine apart y hy hny (oldr y hy hry) ?_ g' ((fp_agree (old2 y hy).1 (old2 y hy).2.2 g').1 iy) rfl
      rcases hrx with h | h
      · cases h
      · exact fun q => h (e2.trans q)
    · intro i ix iy
      have e := fp_one rfl iy
      rw [show i = g' from e.trans e1] at ix
      refine apart x hx hnx (oldr x hx hrx) ?_ g' ((fp_agree (old2 x hx).1 (old2 x hx).2.2 g').1 ix) rfl
      rcases hry with h | h
      · cases h
      · exact fun q => h (e2.trans q)
    · exact (hM.ne x hx y hy hne (oldr x hx hrx) (oldr y hy hry)).agree (old2 x hx).1 (old2 x hx).2.2 (old2 y hy).1 (old2 y hy).2.2
  · intro x hx hw hr i hi
    rcases grow_mem hx with rfl | ⟨hx, hnx⟩
    · have e := fp_one rfl hi
      rw [show i = g' from e.trans e1]
      rcases hr with h | h
      · cases h
      · have h : c' ≠ 0 := fun q => h (e2.trans q)
        rcases hG.at_ with h' | ⟨h1, h2⟩ | h'
        · exact absurd h' h
        · rcases ho with h3 | ⟨b, hb, hob, hbw, hbr, hgb⟩
          · exact absurd h3 h1
          · rw [h2, hgb]
            exact hM.may0 b hb hbw hbr
        · rw [h']
          exact .inr hM.only.size
    · exact hM.may x hx hw (oldr x hx hr) i ((fp_agree (old2 x hx).1 (old2 x hx).2.2 i).1 hi)
  · have hb := hG.by_
    refine ⟨hb.os.trans hM.only.os, hb.tape.trans hM.only.tape, hb.output.trans hM.only.output, Nat.le_trans hM.only.size hb.size, fun k hk hS => ?_⟩
    refine (hb.block k (Nat.lt_of_lt_of_le hk hM.only.size) ?_).trans (hM.only.block k hk hS)
    unfold rowOf
    split
    · simp
    · rename_i hc
      intro he
      injection he with he
      rcases ho with h3 | ⟨b, hb, hob, hbw, hbr, hgb⟩
      · exact absurd h3 hc
      · rcases hM.may0 b hb hbw hbr with h | h
        · rw [← hgb, ← he] at h; exact hS h
        · rw [← hgb, ← he] at h; omega
  · intro l hl
    exact ((upd_old (by omega)).trans (upd_old (by omega))).trans (hM.old l hl)
theorem growS_ok {ρ : Env} {β : Bn} {P : Program} {S : Nat → Prop} {w0 w : World} {β0 : Bn} {n0 : Nat} {s : St} {a : Act} (hM : Md ρ S w0 β0 n0 s β a w) {c : Cx} (hc : c.ok ρ) {ev : Operand → Option SV} (hev : ∀ x v, ev x = some v → a.eval x = v.den ρ β)
    {o : Oper} {k : Call} (ho : o.op = .call k) {m : List Tm} {old : Option Nat} {e : TypeId} {str : Tm} (h : growS P c s.hp ev k = some (m, old, e, str)) (hm : Met ρ m) (n : Nat) (hn : n0 ≤ n) (hf : s.free n = true) (hf1 : s.free (n + 1) = true) :
    ∃ β' w', (execOp a.eval o).run P w = .ok (.value (C.den ρ β' (.slr n (.il 0) (mkLen c str) (.il 0)))) w' ∧ Md ρ S w0 β0 n0 (s.grow n e old str) β' a w' := by
  unfold growS at h
  split at h
  · rename_i x y t u hcal hargs hats
    split at h
    · rename_i xv yv e' hx hy ht
      split at h
      · rename_i i hi
        split at h
        · rename_i q
          simp only [Bool.and_eq_true] at q
          have q1 := Nat.eq_of_beq_eq_true q.1
          have q2 := Nat.eq_of_beq_eq_true q.2.1
          have q3 := zero8_ok q.2.2
          split at h
          · rename_i m1 old' s1 m2 r hbase hsrc
            injection h with h
            injection h with h1 h
            injection h with h2 h
            injection h with h3 h4
            subst h1 h2 h3 h4
            have htot := le_of (need_ok hc hm.r.r)
            rw [mkLen_ok hc] at htot
            change _ ≤ (140737488355328 : Int) at htot
            -- onto what
            have hb : ∃ g cap, RowB w g cap e' true (den ρ s1).s.data.toList ∧ xv.den ρ β = slrV g cap 0 (den ρ s1).s.data.toList.length ∧ (cap = 0 ∨ ∃ b ∈ s.hp, old' = some b.l ∧ b.rw = true ∧ b.real β ∧ g = β b.l) := by
              unfold baseS' at hbase
              split at hbase
              · injection hbase with hbase
                injection hbase with b1 b2
                injection b2 with b2 b3
                subst b1 b2 b3
                exact ⟨0, 0, RowB.none_ .., rfl, .inl rfl⟩
              · rename_i l off len an
                split at hbase
                · rename_i b hfb
                  split at hbase
                  · rename_i sb hsb
                    split at hbase
                    · rename_i z
                      simp only [Bool.and_eq_true] at z
                      injection hbase with hbase
                      injection hbase with b1 b2
                      injection b2 with b2 b3
                      subst b1 b2 b3
                      have hmem := find_mem hfb
                      have hB := hM.hp b hmem.1
                      unfold BkOk at hB
                      rw [hsb] at hB
                      have hB : RowB w (β b.l) (β (b.l + 1)) b.ty b.cs.isEmpty (den ρ sb).s.data.toList := hB
                      rw [z.2.1, hmem.2, Nat.eq_of_beq_eq_true z.2.2.1] at hB
                      have l1 := le_of (need_ok hc hm.l.l)
                      have l2 := le_of (need_ok hc hm.l.r)
                      rw [mkLen_ok hc] at l1 l2
                      have hsz : (den ρ sb).s.data.toList.length = (den ρ sb).s.size := rfl
                      refine ⟨β l, β (l + 1), hB, ?_, ?_⟩
                      · show C.den ρ β (.slr l off len an) = _
                        rw [slr_den, same_eq z.2.2.2]
                        show slrZ _ _ ((0 : Int)).toNat _ _ = _
                        rw [show ((0 : Int)).toNat = 0 from rfl, slrZ_zero]
                        congr 1
                        omega
                      · by_cases h0 : β (l + 1) = 0
                        · exact .inl h0
                        · exact .inr ⟨b, hmem.1, by rw [hmem.2], z.1, .inr (by rw [hmem.2]; exact h0), by rw [hmem.2]⟩
                    · cases hbase
                  · cases hbase
                · cases hbase
              · cases hbase
            obtain ⟨g, cap, hrow, hxv, hold⟩ := hb
            have happ : (den ρ (mkApp s1 r)).s.data.toList = (den ρ s1).s.data.toList ++ (den ρ r).s.data.toList := by
              rw [mkApp_ok]
              simp
            have hszr : (den ρ r).s.data.toList.length = (den ρ r).s.size := rfl
            have hszs : (den ρ s1).s.data.toList.length = (den ρ s1).s.size := rfl
            have hszt : (den ρ (mkApp s1 r)).s.size = (den ρ s1).s.data.toList.length + (den ρ r).s.size := by
              show (den ρ (mkApp s1 r)).s.data.toList.length = _
              rw [happ, List.length_append]
              rfl
            -- what the append gives
            have hres : ∃ g' c' w', (Builtin.append_ #[t, u] o.type #[xv.den ρ β, yv.den ρ β]).run P w = .ok (slrV g' c' 0 ((den ρ s1).s.data.toList.length + (den ρ r).s.size)) w' ∧ Grown w w' g cap e' ((den ρ s1).s.data.toList ++ (den ρ r).s.data.toList) g' c' := by
              rw [hxv]
              have hbd : (den ρ s1).s.data.toList.length + (den ρ r).s.size ≤ 140737488355328 := by omega
              have slc : ∀ {A : Option Addr} {k : Nat}, t = u → yv.den ρ β = .slice A (den ρ r).s.size k → Reads w w.heap.size 1 A (den ρ r).s.size (cells8' (den ρ r).s.data.toList) → ∃ g' c' w', (Builtin.append_ #[t, u] o.type #[slrV g cap 0 (den ρ s1).s.data.toList.length, yv.den ρ β]).run P w = .ok (slrV g' c' 0 ((den ρ s1).s.data.toList.length + (den ρ r).s.size)) w' ∧ Grown w w' g cap e' ((den ρ s1).s.data.toList ++ (den ρ r).s.data.toList) g' c' := by
                intro A k htu hv hr
                rw [← htu, hv]
                exact app_slc ht hi q3 q1 q2 hrow hr hbd
              unfold srcS at hsrc
              split at hsrc
              · rename_i str
                split at hsrc
                · rename_i hu
                  injection hsrc with hsrc
                  injection hsrc with b1 b2
                  subst b1 b2
                  exact app_str ht hu hi q3 q1 q2 hrow _ hbd
                · cases hsrc
              · split at hsrc
                · rename_i z
                  injection hsrc with hsrc
                  injection hsrc with b1 b2
                  subst b1 b2
                  exact slc (A := none) (k := 0) (Nat.eq_of_beq_eq_true z) rfl Reads.none_
                · cases hsrc
              · rename_i l off len cp
                split at hsrc
                · rename_i b nn hfb hlit
                  split at hsrc
                  · rename_i hsb
                    split at hsrc
                    · rename_i z
                      simp only [Bool.and_eq_true] at z
                      have z2 := Nat.le_of_ble_eq_true z.2.1
                      have hno := Xt.isNo_eq z.2.2
                      cases hcb : cellBytes c ((b.cs.drop off).take nn.toNat) with
                      | none => rw [hcb] at hsrc; cases hsrc
                      | some rs =>
                        rw [hcb] at hsrc
                        injection hsrc with hsrc
                        injection hsrc with b1 b2
                        subst b1 b2
                        have hcells := cellBytes_ok (β := β) hc hcb
                        have hmem := find_mem hfb
                        have hB := hM.hp b hmem.1
                        unfold BkOk at hB
                        rw [hsb, hno] at hB
                        have hB : Blk w (β b.l) b.ty (denL ρ β b.cs) := hB
                        rw [hmem.2] at hB
                        have hsz : (den ρ rs).s.size = nn.toNat := by
                          have := congrArg List.length hcells
                          rw [denL_len, cells8'_len, List.length_take, List.length_drop] at this
                          show (den ρ rs).s.data.toList.length = _
                          omega
                        refine slc (A := some ⟨β l, off, none⟩) (k := (den ρ cp).i.toNat) (Nat.eq_of_beq_eq_true z.1) ?_ ?_
                        · rw [isLit_eq hlit, hsz]
                          rfl
                        · refine ⟨by rw [cells8'_len, Nat.mul_one]; rfl, fun h0 => ⟨_, rfl, hB.lt, fun j u hj => ?_⟩⟩
                          rw [Addr.add_mid, hB.cell]
                          rw [← hcells, denL_take, denL_drop, List.getElem?_take, List.getElem?_drop] at hj
                          split at hj
                          · exact hj
                          · cases hj
                    · cases hsrc
                  · cases hsrc
                · cases hsrc
              · rename_i l off len an
                split at hsrc
                · rename_i sr hfr
                  split at hsrc
                  · rename_i z
                    injection hsrc with hsrc
                    injection hsrc with b1 b2
                    subst b1 b2
                    obtain ⟨ty', own', hB⟩ := rowFind_ok hfr hM.hp
                    obtain ⟨r1, r2, r3⟩ := inRow_ok hc hm.r.l
                    have hcap := hB.len
                    have hx := extract_len (den ρ sr).s (den ρ off).i.toNat (den ρ len).i.toNat (by omega)
                    have hfin : (den ρ (mkCut c sr off (mkAdd off len))).s.data.toList = ((den ρ sr).s.data.toList.drop (den ρ off).i.toNat).take (den ρ len).i.toNat := by
                      rw [mkCut_ok hc, mkAdd_ok, show ((den ρ off).i + (den ρ len).i).toNat = (den ρ off).i.toNat + (den ρ len).i.toNat from by omega]
                      exact hx
                    have hsz : (den ρ (mkCut c sr off (mkAdd off len))).s.size = (den ρ len).i.toNat := by
                      show (den ρ (mkCut c sr off (mkAdd off len))).s.data.toList.length = _
                      rw [hfin, List.length_take, List.length_drop]
                      omega
                    by_cases h0 : β (l + 1) = 0
                    · refine slc (A := none) (k := 0) (Nat.eq_of_beq_eq_true z) ?_ ?_
                      · show C.den ρ β (.slr l off len an) = _
                        rw [slr_den, hsz]
                        unfold slrZ
                        rw [if_pos h0]
                        congr 1
                        omega
                      · have e0 : (den ρ (mkCut c sr off (mkAdd off len))).s.size = 0 := by omega
                        have e1 : (den ρ (mkCut c sr off (mkAdd off len))).s.data.toList = [] := List.eq_nil_of_length_eq_zero e0
                        rw [e0, e1]
                        exact Reads.none_
                    · refine slc (A := some ⟨β l, if β (l + 1) = (den ρ off).i.toNat then (den ρ an).i.toNat else (den ρ off).i.toNat, none⟩) (k := β (l + 1) - (den ρ off).i.toNat) (Nat.eq_of_beq_eq_true z) ?_ ?_
                      · show C.den ρ β (.slr l off len an) = _
                        rw [slr_den, hsz]
                        unfold slrZ
                        rw [if_neg h0]
                      · refine ⟨by rw [cells8'_len, Nat.mul_one]; rfl, fun hpos => ⟨_, rfl, ?_, fun j u hj => ?_⟩⟩
                        · obtain ⟨cur, fr, hh, _⟩ := hB.row h0
                          exact (Array.getElem?_eq_some_iff.1 hh).1
                        · rw [hfin] at hj
                          have hjl : j < (den ρ len).i.toNat := by
                            have := (List.getElem?_eq_some_iff.1 hj).1
                            rw [cells8'_len, List.length_take] at this
                            omega
                          have hj' : (den ρ off).i.toNat + j < (den ρ sr).s.data.toList.length := by omega
                          rw [if_neg (by omega), Addr.add_mid, (hB.cell hj').1, ← hj]
                          unfold cells8'
                          rw [List.getElem?_map, List.getElem?_take, if_pos hjl, List.getElem?_drop, List.getElem?_eq_getElem hj']
                          rfl
                  · cases hsrc
                · cases hsrc
              · cases hsrc
            obtain ⟨g', c', w', hrun, hG⟩ := hres
            refine ⟨upd (upd β n g') (n + 1) c', w', ?_, hM.grow n hn hf hf1 hG happ hold⟩
            obtain ⟨callee, args, ats⟩ := k
            simp only [] at hcal hargs hats
            subst hcal
            have e1 : args = #[x, y] := by cases args; simp at hargs; rw [hargs]
            have e2 : ats = #[t, u] := by cases ats; simp at hats; rw [hats]
            subst e1 e2
            have hval : C.den ρ (upd (upd β n g') (n + 1) c') (.slr n (.il 0) (mkLen c (mkApp s1 r)) (.il 0)) = slrV g' c' 0 ((den ρ s1).s.data.toList.length + (den ρ r).s.size) := by
              rw [slr_den, upd_new, upd_old (show n ≠ n + 1 from by omega), upd_new, mkLen_ok hc, hszt]
              exact slrZ_zero _ _ _ _
            rw [hval]
            unfold execOp
            simp only [ho, resolve, invoke, builtin, Sem.run_bind, Sem.run_pure, Result.andThen_ok, List.map_toArray, List.map_cons, List.map_nil, hev _ _ hx, hev _ _ hy, hrun]
          · cases h
        · cases h
      · cases h
    · cases h
  · cases h
/-! A string made bytes. -/
def byteS (P : Program) (c : Cx) (src dst : TypeId) (t : Tm) : Option (List Tm × TypeId) :=
  match P.underlying src, P.underlying dst with
  | some .string, some (.slice e) => match P.underlying e with
    | some (.int .u8) => some (need c (.lt (.il 0) (mkLen c t)) ++ need c (.le (mkLen c t) (.il 140737488355328)), e)
    | _ => none
  | _, _ => none
theorem byteS_ok {ρ : Env} {β : Bn} {P : Program} {S : Nat → Prop} {w0 w : World} {β0 : Bn} {n0 : Nat} {s : St} {a : Act} (hM : Md ρ S w0 β0 n0 s β a w) {c : Cx} (hc : c.ok ρ) {src dst e : TypeId} {t : Tm} {m : List Tm}
    (h : byteS P c src dst t = some (m, e)) (hm : Met ρ m) (n : Nat) (hn : n0 ≤ n) (hf : s.free n = true) (hf1 : s.free (n + 1) = true) :
    ∃ β' w', (convert src dst (.string (den ρ t).s)).run P w = .ok (C.den ρ β' (.slr n (.il 0) (mkLen c t) (.il 0))) w' ∧ Md ρ S w0 β0 n0 (s.grow n e none t false) β' a w' := by
  unfold byteS at h
  split at h
  · rename_i e' hs hd
    split at h
    · rename_i he
      injection h with h
      injection h with h1 h2
      subst h1 h2
      have l1 := lt_of (need_ok hc hm.l)
      have l2 := le_of (need_ok hc hm.r)
      rw [mkLen_ok hc] at l1 l2
      change (0 : Int) < _ at l1
      change _ ≤ (140737488355328 : Int) at l2
      have hge := grownCap_ge w (den ρ t).s.size 0 e'
      have hmx : grownCap w (den ρ t).s.size 0 e' ≤ maxLen := grownCap_le_maxLen w (den ρ t).s.size 0 e' (by simp only [maxLen]; omega)
      have hsz : (Lib.bytesCells w e' (den ρ t).s).size = grownCap w (den ρ t).s.size 0 e' := by
        unfold Lib.bytesCells
        simp
        have e0 : (den ρ t).s.data.size = (den ρ t).s.size := rfl
        omega
      have hlen : (den ρ t).s.data.toList.length = (den ρ t).s.size := rfl
      refine ⟨upd (upd β n w.heap.size) (n + 1) (grownCap w (den ρ t).s.size 0 e'), Lib.bytesWorld w e' (den ρ t).s, ?_, ?_⟩
      · rw [Lib.run_convert_string_bytes w src dst e' (den ρ t).s hs hd he, slr_den, upd_new, upd_old (show n ≠ n + 1 from by omega), upd_new, mkLen_ok hc]
        rw [show (den ρ (.il 0)).i.toNat = 0 from rfl, slrZ_zero, slrV_some (by omega)]
        rfl
      · refine hM.grow (g := 0) (c := 0) (own := false) n hn hf hf1 ⟨⟨fun _ => ⟨_, _, Lib.bytesWorld_at_new w e' (den ρ t).s, .inr ⟨rfl, ?_⟩, hsz, hmx, ?_⟩, by omega⟩, ⟨rfl, rfl, rfl, ?_, fun k hk _ => Lib.bytesWorld_at_old w e' (den ρ t).s k hk⟩, .inr (.inr rfl)⟩ rfl (.inl rfl)
        · show _ ≤ (Lib.bytesCells w e' (den ρ t).s).size
          omega
        · unfold Lib.bytesCells cells8'
          simp
        · rw [Lib.bytesWorld_size]; omega
    · cases h
  · cases h
end Sy
end Go.Proofs.Ytnmfmjlpfhdgeaa
