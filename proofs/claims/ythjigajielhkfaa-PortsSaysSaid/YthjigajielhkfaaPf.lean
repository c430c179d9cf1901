/- Drop of the program's table. -/
import Derived.Test.YthjigajielhkfaaPe
namespace Go.Proofs.Ythjigajielhkfaa
open Go.RowKit Sy
set_option linter.unusedVariables false
set_option linter.unusedSimpArgs false

/-- What a call leaves of a table that may turn. -/
structure TabPost (w : World) (g0 g c : Nat) (T : TypeId) (l : List (List Value)) (w' : World) (g' c' : Nat) : Prop where
  blk : Blk w' g0 T [sltV g' c' l.length]
  row : RowT w' g' c' 50 bdLv l
  at_ : c' = 0 ∨ (c ≠ 0 ∧ g' = g) ∨ w.heap.size ≤ g'
  ne : c' ≠ 0 → g0 ≠ g'
  only : Only (fun i => i = g0 ∨ c ≠ 0 ∧ i = g) w w'
theorem alloc_size (w : World) (o : Obj) : (w.alloc o).heap.size = w.heap.size + 1 := by
  show (w.heap.push o).size = _
  rw [Array.size_push]
namespace Sy
theorem RowT.below {w w' : World} {g c B : Nat} {ty : TypeId} {lv : List Kd} {l : List (List Value)} (h : RowT w g c ty lv l) (hb : Below B w w') (hB : c ≠ 0 → g < B) : RowT w' g c ty lv l := by
  refine ⟨fun hc => ?_, h.len, h.ok⟩
  obtain ⟨cur, h1, h2⟩ := h.row hc
  exact ⟨cur, (hb.block g (hB hc)).trans h1, h2⟩
theorem RowT.lt {w : World} {g c : Nat} {ty : TypeId} {lv : List Kd} {l : List (List Value)} (h : RowT w g c ty lv l) (hc : c ≠ 0) : g < w.heap.size := by
  obtain ⟨cur, h1, _⟩ := h.row hc
  exact (Array.getElem?_eq_some_iff.1 h1).1
theorem RowT.cutTo {w : World} {g c : Nat} {ty : TypeId} {lv : List Kd} {l : List (List Value)} (h : RowT w g c ty lv l) (k : Nat) : RowT w g c ty lv (l.take k) := by
  refine ⟨fun hc => ?_, Nat.le_trans (by rw [List.length_take]; omega) h.len, fun r hr => h.ok r (List.mem_of_mem_take hr)⟩
  obtain ⟨cur, h1, h2, h3, h4⟩ := h.row hc
  refine ⟨cur, h1, h2, h3, ?_⟩
  have hl : (l.take k).length * lv.length ≤ l.length * lv.length := Nat.mul_le_mul_right _ (by rw [List.length_take]; omega)
  have e : l.flatten = (l.take k).flatten ++ (l.drop k).flatten := by rw [← List.flatten_append, List.take_append_drop]
  have hf : (l.take k).flatten.length = (l.take k).length * lv.length := flat_len fun r hr => kAll_len (h.ok r (List.mem_of_mem_take hr))
  have := congrArg (List.take ((l.take k).length * lv.length)) h4
  rw [List.take_take, Nat.min_eq_left hl, e, List.take_append_of_le_length (by omega)] at this
  rw [this]
  exact List.take_of_length_le (by omega)
theorem RowT.only {w w' : World} {g c : Nat} {S : Nat → Prop} {ty : TypeId} {lv : List Kd} {l : List (List Value)} (h : RowT w g c ty lv l) (hb : Only S w w') (hB : c ≠ 0 → ¬ S g) : RowT w' g c ty lv l := by
  refine ⟨fun hc => ?_, h.len, h.ok⟩
  obtain ⟨cur, h1, h2⟩ := h.row hc
  exact ⟨cur, (hb.block g (RowT.lt h hc) (hB hc)).trans h1, h2⟩
end Sy
section
variable {w : World} {g0 g c : Nat} {rows : List (List Value)} {o : Int}
set_option maxHeartbeats 2000000 in
set_option maxRecDepth 100000 in
theorem pdrop_R (hB : Blk w g0 252 [.slice (some ⟨g, 0, none⟩) rows.length c]) (hT : RowT w g c 50 bdLv rows) (hc : c ≠ 0) (hn : rows.length ≤ 4000) (hne : g0 ≠ g) (ho : IntKind.i64.wrap o = o) (hpos : 0 < rows.length) :
    Calls Try.prog 110 #[.pointer (some ⟨g0, 0, none⟩), .int .i64 o] w (RetP fun v w' => v = .int .i64 (if (kept o rows).length = rows.length then 7 else 0) ∧ ∃ g' c', TabPost w g0 g c 252 (kept o rows) w' g' c') := by
  obtain ⟨E, hE⟩ : ∃ E : Int, E = (if (kept o rows).length = rows.length then 7 else 0) := ⟨_, rfl⟩
  rw [← hE]
  have HE := Lib.hid hE
  clear hE
  have hcell := hB.at_ (i := 0) (v := .slice (some ⟨g, 0, none⟩) rows.length c) rfl
  have HB := Lib.hid hB
  have HT := Lib.hid hT
  have hb2 := (hB.alloc (.cells #[.int .i64 o] 3)).at_ (i := 0) (v := .slice (some ⟨g, 0, none⟩) rows.length c) rfl
  clear hB hT
  go_enter Try.func110, Try.ntmps110
  go_wp2_with fail
  have hW : Below w.heap.size w (w.alloc (Obj.cells #[Value.int IntKind.i64 o] 3)) := below_alloc _ (Nat.le_refl _)
  have hK : Blk (w.alloc (Obj.cells #[Value.int IntKind.i64 o] 3)) w.heap.size 3 [.int .i64 o] := Blk.new w 3 [.int .i64 o]
  have hgl := HT.out.lt hc
  have hg0 := HB.out.lt
  refine (clone_calls (HT.out.below hW fun _ => hgl) hc hn).mono ?_
  rintro e w1 ⟨v', rfl, hown, hnn, hbel⟩
  obtain ⟨g1, c1, rfl, hg1, hT1⟩ := row_of_own HT.out.ok hown hnn
  have hsz : (w.alloc (Obj.cells #[Value.int IntKind.i64 o] 3)).heap.size = w.heap.size + 1 := alloc_size _ _
  have hK1 := hK.below hbel (by omega)
  have hB1 := (HB.out.below hW hg0).below hbel (by omega)
  have hlen1 := hT1.len
  have hc1 : c1 ≠ 0 := by omega
  have hdel := del_calls hT1 hK1 ho hn (fun _ => by omega)
  rw [sltV_some hc1] at hdel
  have HD := Lib.hid hdel
  have HB1 := Lib.hid hB1
  clear hdel hK1 hT1 hB1 hK hb2 hcell hlen1
  go_wp2_with fail
  refine HD.out.mono ?_
  rintro e w2 ⟨v2, rfl, T, rfl, hTl, hTk, hT2, hO2⟩
  rw [sltV_some hc1]
  have hB2 := HB1.out.only hO2 (by omega)
  have hcell2 := hB2.at_ (i := 0) (v := .slice (some ⟨g, 0, none⟩) rows.length c) rfl
  have HT2 := Lib.hid hT2
  have HO2 := Lib.hid hO2
  have HB2 := Lib.hid hB2
  clear hT2 hO2 hB2
  have hkle : (kept o rows).length ≤ rows.length := List.length_filter_le ..
  by_cases hk : (kept o rows).length = rows.length
  · have hq : ((((kept o rows).length : Nat) : Int) == ((rows.length : Nat) : Int)) = true := by rw [hk]; exact beq_self_eq_true _
    have HK := Lib.hid hk
    clear hk
    go_wp2
    go_ret
    have hE := HE.out
    rw [if_pos HK.out] at hE
    have hke : kept o rows = rows := List.filter_eq_self.2 (List.length_filter_eq_length_iff.1 HK.out)
    have hout : Only (fun i => i = g0 ∨ c ≠ 0 ∧ i = g) w w2 := Sy.Only.after ((Only.of_below hW _).trans (Only.of_below hbel _)) HO2.out fun i hi => .inr (by subst hi; omega)
    refine ⟨_, rfl, by rw [hE]; rfl, g, c, ?_, ?_, .inr (.inl ⟨hc, rfl⟩), fun _ => hne, hout⟩
    · rw [hke, sltV_some hc]
      exact HB2.out
    · rw [hke]
      exact (((HT.out.below hW fun _ => hgl).below hbel fun _ => by omega)).only HO2.out fun _ => by omega
  · have hq : ((((kept o rows).length : Nat) : Int) == ((rows.length : Nat) : Int)) = false := by
      rw [beq_eq_false_iff_ne]
      omega
    have HK := Lib.hid hk
    clear hk
    have hfz := HB2.out.frozen 0
    go_wp2
    go_ret
    have hE := HE.out
    rw [if_neg HK.out] at hE
    have hS : Only (· = g0) w2 (w2.setCell ⟨g0, 0, none⟩ (Value.slice (some ⟨g1, 0, none⟩) (kept o rows).length c1)) := (Only.refl _ w2).here
    have hout : Only (fun i => i = g0 ∨ c ≠ 0 ∧ i = g) w (w2.setCell ⟨g0, 0, none⟩ (Value.slice (some ⟨g1, 0, none⟩) (kept o rows).length c1)) := Sy.Only.after (Sy.Only.after ((Only.of_below hW _).trans (Only.of_below hbel _)) HO2.out fun i hi => .inr (by subst hi; omega)) hS fun i hi => .inl (.inl hi)
    refine ⟨_, rfl, by rw [hE]; rfl, g1, c1, ?_, ?_, .inr (.inr (by omega)), fun _ => by omega, hout⟩
    · rw [sltV_some hc1]
      exact HB2.out.set_ 0 _
    · have := HT2.out.cutTo (kept o rows).length
      rw [hTk] at this
      exact this.only hS fun _ => by omega
def emEnv (o : Int) (c : Nat) : Env := { mkEnv [] [] [] [] with i := fun n => if n = 26 then IntKind.i64.wrap o else if n = 30 then (c : Int) else 0 }
theorem em_bs (o : Int) (c : Nat) : Bds (emEnv o c) [i64B 26] := fun x hx => by
  rw [List.mem_singleton.1 hx]
  exact wrap_bd .i64 o
theorem del_emp {gb : Nat} (hB : Blk w gb 3 [.int .i64 o]) (ho : IntKind.i64.wrap o = o) : Calls Try.prog 174 #[.slice (some ⟨g, 0, none⟩) 0 c, .func (.func 176) #[] #[.pointer (some ⟨gb, 0, none⟩)]] w (RetP fun v w' => v = .slice (some ⟨g, 0, none⟩) 0 c ∧ Below w.heap.size w w') := by
  have hM0 : Md (emEnv o c) (fun _ => False) w (ixB g c gb) 50 ⟨[], [bxI], ⟨[i64B 26], []⟩, 50⟩ (ixB g c gb) ⟨#[], []⟩ w := by
    refine ⟨rfl, fun x hx => ?_, fun x hx y hy hxy _ _ => ?_, fun x hx hw _ => ?_, ⟨em_bs o c, fun t ht => by cases ht⟩, Only.refl _ _, fun _ _ => rfl⟩
    · rw [List.mem_singleton.1 hx]
      show Blk w gb _ [Value.int .i64 (IntKind.i64.wrap o)]
      rw [ho]
      exact hB
    · rw [List.mem_singleton.1 hx, List.mem_singleton.1 hy] at hxy
      exact absurd rfl hxy
    · rw [List.mem_singleton.1 hx] at hw
      cases hw
  refine calls_sm (B := ⟨emEnv o c, fun _ => False, w, ixB g c gb, 50⟩) (sp := []) (fun i => rfl) (fun q hq => by cases hq) 10 400 Try.func174 rfl _ _ _ 50 rfl dl_emp hM0 ?_ ?_
  · refine ⟨?_, trivial⟩
    intro _ β w' hH
    refine ⟨?_, Sy.Only.below_all hH.only⟩
    show Value.slice (some ⟨β 40, 0, none⟩) 0 c = _
    rw [hH.old 40 (show 40 < 50 by decide)]
    rfl
  · rfl
theorem pdrop_N (hB : Blk w g0 252 [.slice none 0 0]) (ho : IntKind.i64.wrap o = o) :
    Calls Try.prog 110 #[.pointer (some ⟨g0, 0, none⟩), .int .i64 o] w (RetP fun v w' => v = .int .i64 7 ∧ Below w.heap.size w w') := by
  have hM0 : Md (emEnv o 0) (fun _ => False) w (ixB 0 0 g0) 50 ⟨[], [⟨0, 252, [.nslc], false, none, .no⟩], ⟨[i64B 26], []⟩, 50⟩ (ixB 0 0 g0) ⟨#[], []⟩ w := by
    refine ⟨rfl, fun x hx => ?_, fun x hx y hy hxy _ _ => ?_, fun x hx hw _ => ?_, ⟨em_bs o 0, fun t ht => by cases ht⟩, Only.refl _ _, fun _ _ => rfl⟩
    · rw [List.mem_singleton.1 hx]
      exact hB
    · rw [List.mem_singleton.1 hx, List.mem_singleton.1 hy] at hxy
      exact absurd rfl hxy
    · rw [List.mem_singleton.1 hx] at hw
      cases hw
  refine calls_sm (B := ⟨emEnv o 0, fun _ => False, w, ixB 0 0 g0, 50⟩) (sp := []) (fun i => rfl) (fun q hq => by cases hq) 10 400 Try.func110 rfl _ _ _ 50 rfl dr_nil hM0 ?_ ?_
  · refine ⟨?_, trivial⟩
    intro _ β w' hH
    exact ⟨rfl, Sy.Only.below_all hH.only⟩
  · show _ = (#[_, .int .i64 (IntKind.i64.wrap o)] : Array Value)
    rw [ho]
    rfl
set_option maxHeartbeats 2000000 in
set_option maxRecDepth 100000 in
theorem pdrop_E (hB : Blk w g0 252 [.slice (some ⟨g, 0, none⟩) 0 c]) (hT : RowT w g c 50 bdLv []) (hc : c ≠ 0) (ho : IntKind.i64.wrap o = o) :
    Calls Try.prog 110 #[.pointer (some ⟨g0, 0, none⟩), .int .i64 o] w (RetP fun v w' => v = .int .i64 7 ∧ Below w.heap.size w w') := by
  have hcell := hB.at_ (i := 0) (v := .slice (some ⟨g, 0, none⟩) 0 c) rfl
  have HB := Lib.hid hB
  have HT := Lib.hid hT
  have hb2 := (hB.alloc (.cells #[.int .i64 o] 3)).at_ (i := 0) (v := .slice (some ⟨g, 0, none⟩) 0 c) rfl
  clear hB hT
  go_enter Try.func110, Try.ntmps110
  go_wp2_with fail
  have hW : Below w.heap.size w (w.alloc (Obj.cells #[Value.int IntKind.i64 o] 3)) := below_alloc _ (Nat.le_refl _)
  have hK : Blk (w.alloc (Obj.cells #[Value.int IntKind.i64 o] 3)) w.heap.size 3 [.int .i64 o] := Blk.new w 3 [.int .i64 o]
  have hgl := HT.out.lt hc
  have hg0 := HB.out.lt
  refine (clone_calls (HT.out.below hW fun _ => hgl) hc (Nat.zero_le _)).mono ?_
  rintro e w1 ⟨v', rfl, hown, hnn, hbel⟩
  obtain ⟨g1, c1, rfl, hg1, hT1⟩ := row_of_own HT.out.ok hown hnn
  have hsz : (w.alloc (Obj.cells #[Value.int IntKind.i64 o] 3)).heap.size = w.heap.size + 1 := alloc_size _ _
  have hK1 := hK.below hbel (by omega)
  have hB1 := (HB.out.below hW hg0).below hbel (by omega)
  have HD := Lib.hid (del_emp (g := g1) (c := c1) hK1 ho)
  have HB1 := Lib.hid hB1
  clear hK1 hT1 hB1 hK hb2 hcell hown hnn
  go_wp2_with fail
  refine HD.out.mono ?_
  rintro e w2 ⟨v2, rfl, rfl, hb2⟩
  have hsz1 := hbel.size
  have hB2 := HB1.out.below hb2 (by omega)
  have hcell2 := hB2.at_ (i := 0) (v := .slice (some ⟨g, 0, none⟩) 0 c) rfl
  clear hB2
  go_wp2
  go_ret
  exact ⟨_, rfl, rfl, hW.trans ((hbel.mono (by omega)).trans (hb2.mono (by omega)))⟩
/-- Drop leaves those that are not the owner's. -/
def DropRuns (P : Program) (f : FuncId) (T : TypeId) : Prop := ∀ {w : World} {g0 g c : Nat} {rows : List (List Value)} {o : Int}, Blk w g0 T [sltV g c rows.length] → RowT w g c 50 bdLv rows → rows.length ≤ 4000 → (c ≠ 0 → g0 ≠ g) → IntKind.i64.wrap o = o →
  Calls P f #[.pointer (some ⟨g0, 0, none⟩), .int .i64 o] w (RetP fun v w' => v = .int .i64 (if (kept o rows).length = rows.length then 7 else 0) ∧ ∃ g' c', TabPost w g0 g c T (kept o rows) w' g' c')
theorem TabPost.same {T : TypeId} {w' : World} (hB : Blk w g0 T [sltV g c rows.length]) (hT : RowT w g c 50 bdLv rows) (hne : c ≠ 0 → g0 ≠ g) (hb : Below w.heap.size w w') : TabPost w g0 g c T rows w' g c := by
  refine ⟨hB.below hb hB.lt, hT.below hb fun hc => hT.lt hc, ?_, hne, Only.of_below hb _⟩
  by_cases hc : c = 0
  · exact .inl hc
  · exact .inr (.inl ⟨hc, rfl⟩)
theorem pdrop_runs : DropRuns Try.prog 110 252 := by
  intro w g0 g c rows o hB hT hn hne ho
  by_cases hpos : 0 < rows.length
  · have hlen := hT.len
    have hc : c ≠ 0 := by omega
    rw [sltV_some hc] at hB
    exact pdrop_R hB hT hc hn (hne hc) ho hpos
  · have h0 : rows = [] := List.eq_nil_of_length_eq_zero (by omega)
    subst h0
    by_cases hc : c = 0
    · have hB' := hB
      rw [show sltV g c ([] : List (List Value)).length = .slice none 0 0 from by unfold sltV; rw [if_pos hc]] at hB'
      refine (pdrop_N hB' ho).mono ?_
      rintro e w' ⟨v, rfl, rfl, hb⟩
      exact ⟨_, rfl, rfl, g, c, TabPost.same hB hT hne hb⟩
    · have hB' := hB
      rw [sltV_some hc] at hB'
      refine (pdrop_E hB' hT hc ho).mono ?_
      rintro e w' ⟨v, rfl, rfl, hb⟩
      exact ⟨_, rfl, rfl, g, c, TabPost.same hB hT hne hb⟩
end
end Go.Proofs.Ythjigajielhkfaa
