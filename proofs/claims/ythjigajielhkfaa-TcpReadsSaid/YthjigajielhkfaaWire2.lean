/- Bytes appended to a row of the call's own: a literal's, a string's. Package ip: Pseudo; the reference's. -/
import Derived.Test.YthjigajielhkfaaIpW0
import Derived.Test.YthjigajielhkfaaRest
import Derived.Lib.AppendStr
namespace Go.Proofs.Ythjigajielhkfaa
open Go.RowKit
set_option linter.unusedVariables false

section
variable {ops : Array Oper} {rest : List Oper} {o : Oper} {a : Act} {w : World} {Q : Exit → Act → World → Prop}
theorem wpList_app8 (hgd : o.guard = none) (s x : Operand) (ho : o.op = .call { callee := .builtin .append, args := #[s, x], argTypes := #[156, 156] })
    (B : Nat) (v : Value) (l news : List UInt8) (cs : List Value) (hcs : cs = cells8 news) (hs : a.eval s = v) (hv : Row w B v l) (m c : Nat) (hx : a.eval x = .slice (some ⟨w.heap.size, 0, none⟩) m c) (hm : m = news.length)
    (hl : l.length + news.length ≤ 1000000) (hB : B ≤ w.heap.size)
    (h : ∀ v' w', Row w' B v' (l ++ news) → Below B w w' → wpList Try.prog ops Q rest (a.put o.dst v') w') : wpList Try.prog ops Q (o :: rest) a (w.alloc (.cells cs.toArray 5)) := by
  obtain ⟨i, hi, hz0, hz1, hz2⟩ := info_parts info_u8
  subst hcs hm
  refine wpList_append_own _ hgd s x 156 ho B 5 i (.int .u8 0) 1 1 Try.underlying156 hi hz0 hz1 hz2 rfl (by decide) v l.length (cells8 l) hs (World.ownsRow.alloc hv _) ⟨w.heap.size, 0, none⟩ news.length c (cells8 news) hx (by rw [cells8_length, Nat.mul_one]) (new_cells w _ _) cells8_cells
    (by unfold maxLen; omega) (by omega) (by simp; omega) ?_
  intro v' w' hown hgrow _
  refine h v' w' ?_ ((below_alloc _ hB).trans (below_grown hgrow (fun k hk => (World.ownsRow.lt hv k hk).1) (by simp; omega)))
  show World.ownsRow _ _ _ _ _ _ _
  rw [cells8_append, List.length_append]
  exact hown
theorem strCells8 (s : ByteArray) : Lib.strCells s = cells8 s.data.toList := by
  simp [Lib.strCells, cells8]
theorem wpList_app8_str (hgd : o.guard = none) (s x : Operand) (ho : o.op = .call { callee := .builtin .append, args := #[s, x], argTypes := #[156, 9] })
    (B : Nat) (v : Value) (l : List UInt8) (t : ByteArray) (hs : a.eval s = v) (hv : Row w B v l) (hx : a.eval x = .string t)
    (hl : l.length + t.size ≤ 1000000) (hB : B ≤ w.heap.size)
    (h : ∀ v' w', Row w' B v' (l ++ t.data.toList) → Below B w w' → wpList Try.prog ops Q rest (a.put o.dst v') w') : wpList Try.prog ops Q (o :: rest) a w := by
  obtain ⟨i, hi, hz0, hz1, hz2⟩ := info_parts info_u8
  refine Lib.wpList_append_own_string w hgd s x 156 9 ho B 5 i Try.underlying156 Try.underlying9 hi hz0 hz1 hz2 v l.length (cells8 l) hs hv t hx (by unfold maxLen; omega) (by omega) hB ?_
  intro v' w' hown hgrow _
  refine h v' w' ?_ (below_grown hgrow (fun k hk => (World.ownsRow.lt hv k hk).1) hB)
  show World.ownsRow _ _ _ _ _ _ _
  rw [cells8_append, List.length_append, ← Lib.size_eq t, ← strCells8]
  exact hown
end

/-- What stands ahead of a datagram or a segment for its check sum. -/
def psL (src dst proto len : Int) : List UInt8 := bigL src 4 ++ bigL dst 4 ++ [byt 0, byt (proto % 256)] ++ bigL (len % 65536) 2
theorem psL_length (src dst proto len : Int) : (psL src dst proto len).length = 12 := by simp [psL, bigL_length]

theorem ip_Pseudo (src dst proto len : Int) (w : World) (h0 : 0 ≤ src) (h0' : src ≤ 4294967295) (h1 : 0 ≤ dst) (h1' : dst ≤ 4294967295) :
    Calls Try.prog 17 #[.int .u32 src, .int .u32 dst, .int .i64 proto, .int .i64 len] w fun e w' => e = .returned (.string (bs (psL src dst proto len))) ∧ Below w.heap.size w w' := by
  have e1 : IntKind.u8.wrap proto = proto % 256 := by rw [IntKind.wrap_u8]
  have e2 := u16_wrap len
  have hn : cells8 [byt 0, byt (proto % 256)] = [.int .u8 0, .int .u8 (proto % 256)] := by simp [cells8, u8_nat (n := proto % 256) (by omega) (by omega)]; decide
  have HN := Lib.hid hn
  clear hn
  obtain ⟨B, hB⟩ : ∃ B, B = w.heap.size := ⟨_, rfl⟩
  have HB := Lib.hid hB
  have hle : B ≤ w.heap.size := by omega
  clear hB
  go_enter Try.func17, Try.ntmps17
  go_wp2_with fail
  refine (wire_Append32 B _ [] _ _ hle (Row.nil w B) (by simp) (by omega) (by omega)).mono ?_
  rintro e w1 ⟨v1, rfl, hv1, hb1⟩
  have HR1 := Lib.hid hv1
  have HO1 := Lib.hid hb1
  clear hv1 hb1
  go_wp2_with fail
  refine (wire_Append32 B v1 _ _ _ (Nat.le_trans hle HO1.out.size) HR1.out (by simp [bigL_length]) (by omega) (by omega)).mono ?_
  rintro e w2 ⟨v2, rfl, hv2, hb2⟩
  have HR2 := Lib.hid hv2
  have HO2 := Lib.hid (HO1.out.trans hb2)
  clear hv2 hb2 HO1 HR1
  go_wp2_with (at_builtin; refine wpList_app8 rfl (.tmp 15) (.tmp 18) rfl B v2 _ [byt 0, byt (proto % 256)] [.int .u8 0, .int .u8 (proto % 256)] HN.out.symm rfl HR2.out 2 2 rfl rfl (by simp [bigL_length]) (Nat.le_trans hle HO2.out.size) ?_)
  intro v3 w3 hv3 hb3
  have HR3 := Lib.hid hv3
  have HO3 := Lib.hid (HO2.out.trans hb3)
  clear hv3 hb3 HO2 HR2
  go_wp2_with fail
  refine (wire_Append16 B v3 _ _ _ (Nat.le_trans hle HO3.out.size) HR3.out (by simp [bigL_length]) (by omega) (by omega)).mono ?_
  rintro e w4 ⟨v4, rfl, hv4, hb4⟩
  have hv4 : Row w4 B v4 (psL src dst proto len) := by simpa [psL] using hv4
  obtain ⟨g, cap, cs, hvv, hBg, hK, hc1, hc2, hcl, hct⟩ := hv4.blk (by rw [psL_length]; omega)
  rw [psL_length] at hvv hct
  have hcv : Sem.run Try.prog (convert 156 9 (.slice (some ⟨g, 0, none⟩) 12 cap)) w4 = .ok (.string (bs (psL src dst proto len))) w4 := by
    refine conv_row _ _ _ _ _ (fun j u hu => ?_) (psL_length _ _ _ _).symm
    rw [hK.cell j]
    rw [← hct, List.getElem?_take] at hu
    split at hu
    · exact hu
    · cases hu
  have HO4 := Lib.hid (HO3.out.trans hb4)
  clear hv4 hb4 hK hct HO3 HR3 hcl hc1 hc2
  subst hvv
  generalize hr : bs (psL src dst proto len) = r at hcv
  have HR := Lib.hid hr
  clear hr
  go_wp2
  go_ret
  exact ⟨ret_str HR.out.symm, by rw [← HB.out]; exact HO4.out⟩

set_option maxRecDepth 100000 in
theorem ref_Pseudo (src dst proto len : Int) (w : World) (h0 : 0 ≤ src) (h0' : src ≤ 4294967295) (h1 : 0 ≤ dst) (h1' : dst ≤ 4294967295) (h2 : -9223372036854775808 ≤ proto) (h2' : proto ≤ 9223372036854775807) (h3 : -9223372036854775808 ≤ len) (h3' : len ≤ 9223372036854775807) :
    Calls Try.prog 18 #[.int .u32 src, .int .u32 dst, .int .i64 proto, .int .i64 len] w fun e w' => e = .returned (.string (bs (psL src dst proto len))) ∧ Below w.heap.size w w' := by
  have hp1 : 0 ≤ proto % 256 := by omega
  have hp2 : proto % 256 ≤ 255 := by omega
  have hl1 : 0 ≤ len % 65536 := by omega
  have hl2 : len % 65536 ≤ 65535 := by omega
  have c1 := fun w => ref_big 4 src w (by omega) (by omega) (by omega)
  have c2 := fun w => ref_big 4 dst w (by omega) (by omega) (by omega)
  have c3 := fun w => ref_chr 0 w (by omega) (by omega)
  have c4 := fun w => ref_Rest proto 256 w (by omega) (by omega) (by omega) (by omega)
  have c5 := fun w => ref_chr (proto % 256) w (by omega) (by omega)
  have c6 := fun w => ref_Rest len 65536 w (by omega) (by omega) (by omega) (by omega)
  have c7 := fun w => ref_big 2 (len % 65536) w (by omega) (by omega) (by omega)
  have z1 : (bs (bigL src 4)).size ≤ 4 := by simp [bs_size, bigL_length]
  have z2 : (bs (bigL dst 4)).size ≤ 4 := by simp [bs_size, bigL_length]
  have z3 : (bs [byt 0]).size ≤ 1 := by simp [bs_size]
  have z5 : (bs [byt (proto % 256)]).size ≤ 1 := by simp [bs_size]
  have z7 : (bs (bigL (len % 65536) 2)).size ≤ 2 := by simp [bs_size, bigL_length]
  generalize ha1 : bs (bigL src 4) = a1 at c1 z1
  generalize ha2 : bs (bigL dst 4) = a2 at c2 z2
  generalize ha3 : bs [byt 0] = a3 at c3 z3
  generalize ha5 : bs [byt (proto % 256)] = a5 at c5 z5
  generalize ha7 : bs (bigL (len % 65536) 2) = a7 at c7 z7
  have HA : Hid (a1 ++ a2 ++ a3 ++ a5 ++ a7 = bs (psL src dst proto len)) := by
    show _ = _
    rw [← ha1, ← ha2, ← ha3, ← ha5, ← ha7]
    simp [bs_append, psL]
  have H1 := Lib.hid c1
  have H2 := Lib.hid c2
  have H3 := Lib.hid c3
  have H4 := Lib.hid c4
  have H5 := Lib.hid c5
  have H6 := Lib.hid c6
  have H7 := Lib.hid c7
  generalize proto % 256 = pm at H4 H5 hp1 hp2
  generalize len % 65536 = lm at H6 H7 hl1 hl2
  clear c1 c2 c3 c4 c5 c6 c7 ha1 ha2 ha3 ha5 ha7
  go_enter Try.func18, Try.ntmps18
  go_wp2_with fail
  refine (H1.out _).mono ?_
  rintro e w1 ⟨rfl, hb1⟩
  have HO := Lib.hid hb1
  clear hb1
  go_wp2_with fail
  refine (H2.out _).mono ?_
  rintro e w2 ⟨rfl, hb2⟩
  have HO2 := Lib.hid (HO.out.trans (hb2.mono HO.out.size))
  clear hb2 HO
  go_wp2_with fail
  refine (H3.out _).mono ?_
  rintro e w3 ⟨rfl, hb3⟩
  have HO3 := Lib.hid (HO2.out.trans (hb3.mono HO2.out.size))
  clear hb3 HO2
  go_wp2_with fail
  refine (H4.out _).mono ?_
  rintro e w3 ⟨rfl, rfl⟩
  go_wp2_with fail
  refine (H5.out _).mono ?_
  rintro e w5 ⟨rfl, hb5⟩
  have HO5 := Lib.hid (HO3.out.trans (hb5.mono HO3.out.size))
  clear hb5 HO3
  go_wp2_with fail
  refine (H6.out _).mono ?_
  rintro e w5 ⟨rfl, rfl⟩
  go_wp2_with fail
  refine (H7.out _).mono ?_
  rintro e w7 ⟨rfl, hb7⟩
  have HO7 := Lib.hid (HO5.out.trans (hb7.mono HO5.out.size))
  clear hb7 HO5
  go_wp2_with fail
  go_ret
  exact ⟨ret_str HA.out, HO7.out⟩
end Go.Proofs.Ythjigajielhkfaa
