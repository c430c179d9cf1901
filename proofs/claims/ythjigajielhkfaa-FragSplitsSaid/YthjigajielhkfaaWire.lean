/- Package wire: bytes appended, put, read. 'Row': a slice of the call's own that holds these bytes. -/
import Derived.Test.YthjigajielhkfaaBytes
import Derived.Test.YthjigajielhkfaaOwn
import Derived.Test.YthjigajielhkfaaSumPlain
namespace Go.Proofs.Ythjigajielhkfaa
open Go.RowKit
set_option linter.unusedVariables false

theorem info_u8 : (Try.prog.info? 5).map (fun i => (i.zero, i.size, i.bytes)) = some (some (.int .u8 0), 1, 1) := by kernel_rfl
/-- The cells of these bytes. -/
def cells8 (l : List UInt8) : List Value := l.map fun b => .int .u8 (b.toNat : Int)
theorem cells8_length (l : List UInt8) : (cells8 l).length = l.length := by simp [cells8]
theorem cells8_append (l m : List UInt8) : cells8 (l ++ m) = cells8 l ++ cells8 m := by simp [cells8]
/-- v is a slice of bytes of the call's own (its block is B or behind it) and holds l. -/
def Row (w : World) (B : Nat) (v : Value) (l : List UInt8) : Prop := w.ownsRow B 5 1 v l.length (cells8 l)
theorem Row.nil (w : World) (B : Nat) : Row w B (.slice none 0 0) [] := World.ownsRow_nil w B _ _
theorem cells8_one (n : Int) (h0 : 0 ≤ n) (h1 : n ≤ 255) : cells8 [byt n] = [.int .u8 n] := by simp [cells8, u8_nat h0 h1]
theorem cells8_big2 (n : Int) (h0 : 0 ≤ n) (h1 : n ≤ 65535) : cells8 (bigL n 2) = [.int .u8 (n / 256), .int .u8 (n % 256)] := by
  simp only [bigL, List.nil_append, List.singleton_append, cells8, List.map_cons, List.map_nil]
  rw [u8_nat (n := n / 256 % 256) (by omega) (by omega), u8_nat (n := n % 256) (by omega) (by omega), show n / 256 % 256 = n / 256 from by omega]
theorem cells8_cells {l : List UInt8} : ∀ u ∈ cells8 l, u.oneCell' = true := by
  intro u hu
  simp only [cells8, List.mem_map] at hu
  obtain ⟨b, _, rfl⟩ := hu
  rfl
/-- What a literal's cells hold. -/
theorem new_cells (w : World) (t : TypeId) (cs : List Value) : ∀ j u, cs[j]? = some u → (w.alloc (.cells cs.toArray t)).cell? ((⟨w.heap.size, 0, none⟩ : Addr).add j) = some u := by
  intro j u hj
  have h := (Blk.new w t cs).at_ hj
  have e : (⟨w.heap.size, 0, none⟩ : Addr).add j = ⟨w.heap.size, j, none⟩ := by
    unfold Addr.add
    split
    · next h0 => rw [h0]
    · simp
  rw [e]
  exact h

theorem wire_Append16 (B : Nat) (v : Value) (l : List UInt8) (n : Int) (w : World) (hB : B ≤ w.heap.size) (hv : Row w B v l) (hl : l.length ≤ 1000000) (h0 : 0 ≤ n) (h1 : n ≤ 65535) :
    Calls Try.prog 128 #[v, .int .u16 n] w fun e w' => ∃ v', e = .returned v' ∧ Row w' B v' (l ++ bigL n 2) ∧ Below B w w' := by
  obtain ⟨i, hi, hz0, hz1, hz2⟩ := info_parts info_u8
  go_enter Try.func128, Try.ntmps128
  have hlen := cells8_length l
  go_wp2_with (at_builtin; refine wpList_append_own _ rfl (.tmp 5) (.tmp 11) 156 rfl B 5 i (.int .u8 0) 1 1 Try.underlying156 hi hz0 hz1 hz2 rfl (by decide) v l.length (cells8 l) rfl (hv.alloc _) ⟨w.heap.size, 0, none⟩ 2 2 (cells8 (bigL n 2)) rfl rfl ?c1 ?c2 ?c3 ?c4 ?c5 ?_)
  case c1 =>
    rw [cells8_big2 n h0 h1]
    exact new_cells w _ _
  case c2 => exact cells8_cells
  case c3 => unfold maxLen; omega
  case c4 => omega
  case c5 => simp; omega
  intro v' w1 hown hgrow _
  go_wp2
  go_ret
  refine ⟨v', rfl, ?_, ?_⟩
  · show World.ownsRow _ _ _ _ _ _ _
    rw [cells8_append, List.length_append, bigL_length]
    exact hown
  · exact (below_alloc _ hB).trans (below_grown hgrow (fun k hk => (hv.lt k hk).1) (by simp; omega))

theorem u16_wrap (n : Int) : IntKind.u16.wrap n = n % 65536 := by
  simp only [IntKind.wrap]
  rw [show (2 : Int) ^ IntKind.u16.bits = 65536 from rfl]
  simp only [IntKind.signed]
  simp
theorem bigL_four (n : Int) : bigL n 4 = bigL (n / 65536) 2 ++ bigL (n % 65536) 2 := by
  simp only [bigL, List.nil_append, List.cons_append]
  rw [show n / 256 / 256 / 256 % 256 = n / 65536 / 256 % 256 from by omega, show n / 256 / 256 % 256 = n / 65536 % 256 from by omega, show n / 256 % 256 = n % 65536 / 256 % 256 from by omega, show n % 256 = n % 65536 % 256 from by omega]

theorem wire_Append32 (B : Nat) (v : Value) (l : List UInt8) (n : Int) (w : World) (hB : B ≤ w.heap.size) (hv : Row w B v l) (hl : l.length ≤ 999990) (h0 : 0 ≤ n) (h1 : n ≤ 4294967295) :
    Calls Try.prog 127 #[v, .int .u32 n] w fun e w' => ∃ v', e = .returned v' ∧ Row w' B v' (l ++ bigL n 4) ∧ Below B w w' := by
  have HV := Lib.hid hv
  have hw := u16_wrap n
  clear hv
  go_enter Try.func127, Try.ntmps127
  go_wp2_with fail
  refine (wire_Append16 B v l _ w hB HV.out (by omega) (by omega) (by omega)).mono ?_
  rintro e w1 ⟨v1, rfl, hv1, hb1⟩
  have HV1 := Lib.hid hv1
  have HB1 := Lib.hid hb1
  clear hv1 hb1
  go_wp2_with fail
  refine (wire_Append16 B v1 (l ++ bigL (n / 65536) 2) _ w1 (Nat.le_trans hB HB1.out.size) HV1.out (by rw [List.length_append, bigL_length]; omega) (by omega) (by omega)).mono ?_
  rintro e w2 ⟨v2, rfl, hv2, hb2⟩
  have HV2 := Lib.hid hv2
  have HB2 := Lib.hid hb2
  clear hv2 hb2
  go_wp2_with fail
  go_ret
  refine ⟨v2, rfl, ?_, HB1.out.trans HB2.out⟩
  rw [bigL_four, ← List.append_assoc]
  exact HV2.out

/-- Two bytes put into a row. -/
theorem put_cells (A B : List UInt8) (cs : List Value) (c : Int) (k : Nat) (h0 : 0 ≤ c) (h1 : c ≤ 65535) (hk : A.length = k) (hcs : cs.take (k + 2 + B.length) = cells8 (A ++ [0, 0] ++ B)) :
    ∀ (j : Nat) (u : Value), (cells8 (A ++ bigL c 2 ++ B))[j]? = some u → ((cs.set k (.int .u8 (c / 256))).set (k + 1) (.int .u8 (c % 256)))[j]? = some u := by
  intro j u hu
  have hl : (cells8 (A ++ [(0 : UInt8), 0] ++ B)).length = k + 2 + B.length := by rw [cells8_length]; simp [hk]; omega
  have hlc : k + 2 + B.length ≤ cs.length := by rw [← hcs, List.length_take] at hl; omega
  have hj : j < k + 2 + B.length := by
    have := (List.getElem?_eq_some_iff.1 hu).1
    rw [cells8_length] at this
    simp [hk, bigL_length] at this
    omega
  rw [cells8_append, cells8_append, cells8_big2 c h0 h1] at hu
  rw [cells8_append, cells8_append] at hcs
  have ha : (cells8 A).length = k := by rw [cells8_length, hk]
  have hcj : ∀ i, i < k + 2 + B.length → cs[i]? = (cells8 A ++ cells8 [(0 : UInt8), 0] ++ cells8 B)[i]? := by
    intro i hi
    rw [← hcs, List.getElem?_take, if_pos hi]
  rw [List.getElem?_set, List.length_set]
  by_cases h11 : k + 1 = j
  · subst h11
    rw [if_pos rfl, if_pos (by omega)]
    rw [List.append_assoc, List.getElem?_append_right (by omega), ha, show k + 1 - k = 1 from by omega] at hu
    exact hu
  · rw [if_neg h11, List.getElem?_set]
    by_cases h10 : k = j
    · subst h10
      rw [if_pos rfl, if_pos (by omega)]
      rw [List.append_assoc, List.getElem?_append_right (by omega), ha, Nat.sub_self] at hu
      exact hu
    · rw [if_neg h10, hcj j hj, ← hu]
      rcases Nat.lt_or_ge j k with hlt | hge
      · rw [List.append_assoc, List.append_assoc, List.getElem?_append_left (by omega), List.getElem?_append_left (by omega)]
      · have l1 : (cells8 A ++ cells8 [(0 : UInt8), 0]).length = k + 2 := by rw [List.length_append, ha, cells8_length]; rfl
        have l2 : (cells8 A ++ [Value.int IntKind.u8 (c / 256), Value.int IntKind.u8 (c % 256)]).length = k + 2 := by rw [List.length_append, ha]; rfl
        rw [List.getElem?_append_right (by omega), List.getElem?_append_right (by omega), l1, l2]
theorem wordsN_app (l m : List UInt8) (h : l.length % 2 = 0) : wordsN (l ++ m) = wordsN l + wordsN m := by
  have := wordsN_split (l.length / 2) (l ++ m) (by simp; omega)
  rw [show 2 * (l.length / 2) = l.length from by omega, List.take_left, List.drop_left] at this
  exact this
theorem sum_gap (l m : List UInt8) (h : l.length % 2 = 0) : sumN (l ++ [0, 0] ++ m) = sumN (l ++ m) := by
  unfold sumN
  have e : wordsN ([0, 0] ++ m) = wordsN m := by simp [wordsN]
  rw [List.append_assoc, wordsN_app l _ h, wordsN_app l _ h, e]

/-- 'b[k:]' of a slice of bytes. -/
theorem elem8 : Try.prog.underlying 156 = some (.slice (Try.prog.elem 156)) := by kernel_rfl
theorem sizeOf8 (w : World) : (sizeOf (Try.prog.elem 156)).run Try.prog w = .ok 1 w := by kernel_rfl
theorem run_from8 (g o len cap k : Nat) (hk : k ≤ len) (hc : k < cap) (w : World) :
    (Instr.slice 156 (.slice (some ⟨g, o, none⟩) len cap) (some (.int .i64 (k : Int))) none none).run Try.prog w = .ok (.slice (some ⟨g, o + k, none⟩) (len - k) (cap - k)) w := by
  have h := run_slice_l (P := Try.prog) (w := w) 156 (some ⟨g, o, none⟩) len cap elem8 .i64 (k : Int) (by omega) (by omega)
  rw [h, sizeOf8]
  have e : (⟨g, o, none⟩ : Addr).add k = ⟨g, o + k, none⟩ := by
    unfold Addr.add
    split
    · next h0 => rw [h0]; rfl
    · rfl
  show Result.ok (sliced _ _ _ _ _) w = _
  unfold sliced
  rw [if_neg (by omega)]
  simp [e]
end Go.Proofs.Ythjigajielhkfaa
