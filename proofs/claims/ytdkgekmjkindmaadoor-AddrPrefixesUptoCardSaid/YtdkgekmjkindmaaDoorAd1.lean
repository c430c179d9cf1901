/- Addresses: what the library's contracts ask of the world; the contracts at this program. -/
import Derived.Test.YtdkgekmjkindmaaDoorAd0
import Derived.Test.YtdkgekmjkindmaaDoorHd
import Derived.Lib.SplitLaws
import Derived.Lib.Join
namespace Go.Proofs.YtdkgekmjkindmaaDoor
open Go.RowKit Go.Shelf Go.Lib
set_option linter.unusedVariables false
set_option linter.unusedSimpArgs false

abbrev gSyn : Nat := 0
abbrev gRng : Nat := 1
abbrev gMax : Nat := 2
abbrev gPow : Nat := 5
/-- What the library reads. -/
structure LibW (w : World) : Prop where
  size : 8 ≤ w.heap.size
  max : ∃ m, w.cell? ⟨gMax, 0, none⟩ = some (.int .i64 m)
  syn : ∃ ev, w.cell? ⟨gSyn, 0, none⟩ = some ev ∧ (ev = .nilIface ∨ ∃ te pe, ev = .iface te pe)
  rng : ∃ ev, w.cell? ⟨gRng, 0, none⟩ = some ev ∧ (ev = .nilIface ∨ ∃ te pe, ev = .iface te pe)
  tab : TabIs Tryd.prog w "internal/strconv.uint64pow10" .u64 pow10Tab
theorem cell_kept_b {w w' : World} {g o : Nat} (h : w'.heap[g]? = w.heap[g]?) : w'.cell? ⟨g, o, none⟩ = w.cell? ⟨g, o, none⟩ := by
  simp only [World.cell?, h]
theorem LibW.kept {w w' : World} (h : LibW w) (hk : ∀ i, i < 8 → w'.heap[i]? = w.heap[i]?) : LibW w' := by
  have hs := h.size
  have hs' : 8 ≤ w'.heap.size := by
    rcases Nat.lt_or_ge 7 w'.heap.size with q | q
    · omega
    · have := hk 7 (by decide)
      rw [Array.getElem?_eq_none q, Array.getElem?_eq_getElem (show 7 < w.heap.size by omega)] at this
      cases this
  refine ⟨hs', ?_, ?_, ?_, ?_⟩
  · obtain ⟨m, e⟩ := h.max
    exact ⟨m, (cell_kept_b (hk _ (by decide))).trans e⟩
  · obtain ⟨m, e, q⟩ := h.syn
    exact ⟨m, (cell_kept_b (hk _ (by decide))).trans e, q⟩
  · obtain ⟨m, e, q⟩ := h.rng
    exact ⟨m, (cell_kept_b (hk _ (by decide))).trans e, q⟩
  · have ht := h.tab
    unfold TabIs World.var? at ht ⊢
    have hg : Tryd.prog.globalNamed "internal/strconv.uint64pow10" = some gPow := by kernel_rfl
    rw [hg] at ht ⊢
    simp only [Option.bind_some] at ht ⊢
    rw [hk gPow (by decide)]
    exact ht
theorem LibW.below {w w' : World} (h : LibW w) {n : Nat} (hn : 8 ≤ n) (hb : Below n w w') : LibW w' := h.kept fun i hi => hb.block i (by omega)
def dot : ByteArray := ⟨#[46]⟩
def slash : ByteArray := ⟨#[47]⟩
theorem drewN_below (w : World) (n : Nat) : Below w.heap.size w (w.drewN n) := ⟨rfl, rfl, rfl, Nat.le_refl _, fun _ _ => rfl⟩
section
variable {w : World}
theorem index_calls (h : LibW w) (s : ByteArray) (hs : s.size < 4294967281) : Calls Tryd.prog 44 #[.string s, .string dot] w fun e w' => e = .returned (.int .i64 (indexB s dot)) ∧ w' = w := by
  obtain ⟨m, hm⟩ := h.max
  exact Any.strings_Index Tryd.adIndex s dot m w hs hm
theorem split_calls (h : LibW w) (s sep : ByteArray) (hs : s.size < 4294967281) (h1 : 1 ≤ sep.size) : Calls Tryd.prog 19 #[.string s, .string sep] w fun e w' =>
      e = .returned (.slice (some ⟨w.heap.size, 0, none⟩) (countB s sep + 1) (countB s sep + 1)) ∧ w' = w.alloc (.cells ((splitB sep 0 (countB s sep) s).map Value.string).toArray 9) := by
  obtain ⟨m, hm⟩ := h.max
  exact Any.strings_Split Tryd.adSplit (by kernel_rfl) s sep m w hs hm h1
theorem cut_calls (h : LibW w) (s sep : ByteArray) (hs : s.size < 4294967281) : Calls Tryd.prog 25 #[.string s, .string sep] w fun e w' => e = .returned (.tuple #[.string ⟨(Lib.cut s.data.toList sep.data.toList).1.toArray⟩, .string ⟨(Lib.cut s.data.toList sep.data.toList).2.1.toArray⟩, .bool (Lib.cut s.data.toList sep.data.toList).2.2]) ∧ Below w.heap.size w w' := by
  obtain ⟨m, hm⟩ := h.max
  refine (Any.strings_Cut Tryd.adCut s sep m w hs hm).mono ?_
  rintro e w' ⟨rfl, n, rfl⟩
  exact ⟨rfl, drewN_below _ _⟩
theorem itoa_calls (h : LibW w) (n : Int) (h0 : -9223372036854775808 ≤ n) (h1 : n ≤ 9223372036854775807) : Calls Tryd.prog 21 #[.int .i64 n] w fun e w' => e = .returned (.string ⟨(itoa n).toArray⟩) ∧ Below w.heap.size w w' := by
  refine (Any.strconv_Itoa Tryd.adItoa n h0 h1 w h.tab).mono ?_
  rintro e w' ⟨rfl, k, os, rfl⟩
  refine ⟨rfl, rfl, rfl, rfl, ?_, fun i hi => ?_⟩
  · show w.heap.size ≤ (w.heap ++ os).size
    rw [Array.size_append]; omega
  · show (w.heap ++ os)[i]? = w.heap[i]?
    rw [Array.getElem?_append_left hi]
theorem adJoinX : Builder.Extra Tryd.prog Tryd.adJoin_ren where
  sizeBuilder := by kernel_rfl
  liesBuilder := by kernel_rfl
  t5 := Tryd.underlying5
  a5 := Tryd.isAgg5
  z5 := Tryd.sizeOf5
  v5 := Tryd.zeroValue5
  infoByte := by kernel_rfl
  cellsByte := by kernel_rfl
  sizeByte := by kernel_rfl
  neB5 := by decide
theorem join_calls (bk c : Nat) (xs : List ByteArray) (hcells : ∀ (j : Nat) x, xs[j]? = some x → w.cell? ⟨bk, 0 + j, none⟩ = some (.string x)) (hbk : bk < w.heap.size) (hN : xs.length ≤ 140737488355328) (hcap : xs.length ≤ c) (hlen : (Lib.join (xs.map (·.data.toList)) dot.data.toList).length ≤ 140737488355328) :
    Calls Tryd.prog 22 #[.slice (some ⟨bk, 0, none⟩) xs.length c, .string dot] w fun e w' => e = .returned (.string ⟨(Lib.join (xs.map (·.data.toList)) dot.data.toList).toArray⟩) ∧ Below w.heap.size w w' :=
  Any.strings_Join Tryd.adJoin adJoinX bk 0 c xs dot w hcells hbk hN hcap hlen
/-- ParseUint of a piece, at 8 bits: the number, or an error. -/
theorem pu_calls (h : LibW w) (s : ByteArray) (hs : s.size < 4294967281) : Calls Tryd.prog 18 #[.string s, .int .i64 10, .int .i64 8] w fun e w' => (∃ u v, e = .returned (.tuple #[.int .u64 u, v]) ∧ match parseUintB 8 s.data.toList with
      | .ok n => u = (n : Int) ∧ v = .nilIface
      | _ => ∃ t p, v = .iface t p) ∧ Below w.heap.size w w' := by
  obtain ⟨ev, he, hev⟩ := h.syn
  obtain ⟨er, hr, her⟩ := h.rng
  cases q : parseUintB 8 s.data.toList with
  | ok n =>
    refine (Any.strconv_ParseUint_10_at8_ok Tryd.adPu s (by omega) n q w).mono ?_
    rintro e w' ⟨rfl, hw⟩
    refine ⟨⟨n, .nilIface, rfl, rfl, rfl⟩, ?_⟩
    rcases hw with rfl | rfl
    · exact Below.refl _ _
    · exact Lib.bytesWorld_below _ _ _
  | range =>
    refine (Any.strconv_ParseUint_10_at8_range Tryd.adPu s (by omega) q er w hr her).mono ?_
    rintro e w' ⟨N, rfl, _, _, hb⟩
    exact ⟨⟨_, _, rfl, _, _, rfl⟩, hb⟩
  | _ =>
    refine (Any.strconv_ParseUint_10_at8_syntax Tryd.adPu s (by omega) q ev w he hev).mono ?_
    rintro e w' ⟨N, rfl, _, _, hb⟩
    exact ⟨⟨_, _, rfl, _, _, rfl⟩, hb⟩
/-- Atoi: the number, or an error. -/
theorem atoi_calls (h : LibW w) (s : ByteArray) (hs : s.size < 4294967281) : Calls Tryd.prog 26 #[.string s] w fun e w' => (∃ u v, e = .returned (.tuple #[.int .i64 u, v]) ∧ (-9223372036854775808 ≤ u ∧ u ≤ 9223372036854775807) ∧ match atoiAll s.data.toList with
      | .ok n => u = n ∧ v = .nilIface
      | _ => ∃ t p, v = .iface t p) ∧ Below w.heap.size w w' := by
  obtain ⟨ev, he, hev⟩ := h.syn
  obtain ⟨er, hr, her⟩ := h.rng
  cases q : atoiAll s.data.toList with
  | ok n =>
    refine (Any.strconv_Atoi_ok Tryd.adAtoi s (by omega) n q w).mono ?_
    rintro e w' ⟨rfl, hw⟩
    refine ⟨⟨n, .nilIface, rfl, ?_, rfl, rfl⟩, ?_⟩
    · have := Lib.atoiAll_bounds q
      omega
    rcases hw with rfl | ⟨t, rfl⟩
    · exact Below.refl _ _
    · exact Lib.bytesWorld_below _ _ _
  | range =>
    refine (Any.strconv_Atoi_range Tryd.adAtoi s (by omega) q er w hr her).mono ?_
    rintro e w' ⟨N, rfl, _, _, hb⟩
    refine ⟨⟨_, _, rfl, ?_, _, _, rfl⟩, hb⟩
    unfold atoiSat
    split <;> decide
  | _ =>
    refine (Any.strconv_Atoi_syntax Tryd.adAtoi s (by omega) q ev w he hev).mono ?_
    rintro e w' ⟨N, rfl, _, _, hb⟩
    exact ⟨⟨_, _, rfl, ⟨by decide, by decide⟩, _, _, rfl⟩, hb⟩
end
end Go.Proofs.YtdkgekmjkindmaaDoor
