/- Package ip: fits. -/
import Derived.Test.YthjigajielhkfaaRead
import Derived.Test.YthjigajielhkfaaQuietA
import Derived.Test.YthjigajielhkfaaIpW0
import Derived.Laws.CopyOwn
namespace Go.Proofs.Ythjigajielhkfaa
open Go.RowKit
set_option linter.unusedVariables false

/-- The first 20 bytes, bytes 10 and 11 struck. -/
def zero10 (l : List UInt8) : List UInt8 := (l.take 20).take 10 ++ [0, 0] ++ (l.take 20).drop (10 + 2)
def fitN (l : List UInt8) : Int := 65535 - (sumN (zero10 l) : Int)

theorem At8.two {w : World} {g : Nat} {l : List UInt8} (h : At8 w g l) (o : Nat) (h8 : o + 2 ≤ l.length) : At8 ((w.setCell ⟨g, o, none⟩ (.int .u8 0)).setCell ⟨g, o + 1, none⟩ (.int .u8 0)) g (l.take o ++ [0, 0] ++ l.drop (o + 2)) := by
  have hl : (l.take o ++ [0, 0] ++ l.drop (o + 2)).length = l.length := by simp; omega
  intro j u hu
  have hj : j < (l.take o ++ [0, 0] ++ l.drop (o + 2)).length := by
    have := (List.getElem?_eq_some_iff.1 hu).1
    rwa [cells8_length] at this
  have c6 := h.cell o (by omega)
  have c7 := h.cell (o + 1) (by omega)
  have c6' : (w.setCell ⟨g, o, none⟩ (.int .u8 0)).cell? ⟨g, o, none⟩ = some (.int .u8 0) := World.cell?_setCell_same w _ _ c6
  have c7' : (w.setCell ⟨g, o, none⟩ (.int .u8 0)).cell? ⟨g, o + 1, none⟩ = some (.int .u8 ((l[o + 1]'(by omega)).toNat : Int)) := by rw [World.cell?_setCell_other _ _ _ _ (by simp)]; exact c7
  have e1 : (l.take o ++ [0, 0]).length = o + 2 := by simp; omega
  have e2 : (l.take o).length = o := by simp; omega
  rw [cells8, List.getElem?_map] at hu
  by_cases h7 : j = o + 1
  · subst h7
    rw [World.cell?_setCell_same _ _ _ c7', ← hu, List.getElem?_append_left (by omega), List.getElem?_append_right (by omega), e2, show o + 1 - o = 1 from by omega]
    rfl
  · rw [World.cell?_setCell_other _ _ _ _ (by simp; try omega)]
    by_cases h6 : j = o
    · subst h6
      rw [c6', ← hu, List.getElem?_append_left (by omega), List.getElem?_append_right (by omega), e2, Nat.sub_self]
      rfl
    · rw [World.cell?_setCell_other _ _ _ _ (by simp; try omega), h.cell j (by omega), ← hu]
      rcases Nat.lt_or_ge j o with hlt | hge
      · rw [List.getElem?_append_left (by omega), List.getElem?_append_left (by omega), List.getElem?_take, if_pos hlt, List.getElem?_eq_getElem (by omega)]
        rfl
      · rw [List.getElem?_append_right (by omega), e1, List.getElem?_drop, show o + 2 + (j - (o + 2)) = j from by omega, List.getElem?_eq_getElem (by omega)]
        rfl
def zeros20 : List Value := List.replicate 20 (.int .u8 0)
theorem zeros20_eq : zeros20 = [Value.int IntKind.u8 0, Value.int IntKind.u8 0, Value.int IntKind.u8 0, Value.int IntKind.u8 0, Value.int IntKind.u8 0, Value.int IntKind.u8 0, Value.int IntKind.u8 0, Value.int IntKind.u8 0, Value.int IntKind.u8 0, Value.int IntKind.u8 0, Value.int IntKind.u8 0, Value.int IntKind.u8 0, Value.int IntKind.u8 0, Value.int IntKind.u8 0, Value.int IntKind.u8 0, Value.int IntKind.u8 0, Value.int IntKind.u8 0, Value.int IntKind.u8 0, Value.int IntKind.u8 0, Value.int IntKind.u8 0] := rfl

set_option maxRecDepth 100000 in
theorem ip_fits (gb c : Nat) (l : List UInt8) (w : World) (h : At8 w gb l) (hl : 20 ≤ l.length) (hc : 20 ≤ c) (hg : gb < w.heap.size) :
    Calls Try.prog 122 #[.slice (some ⟨gb, 0, none⟩) 20 c] w fun e w' => e = .returned (.bool (fitN l == (numL ((l.drop 10).take 2) : Int))) ∧ Below w.heap.size w w' := by
  have c1 := wire_Get16 gb 10 10 (c - 10) l w h (by omega) (by omega)
  have hsl : ∀ W, (Instr.slice 156 (.slice (some ⟨gb, 0, none⟩) 20 c) (some (.int .i64 10)) none none).run Try.prog W = .ok (.slice (some ⟨gb, 10, none⟩) 10 (c - 10)) W := fun W => by
    have := run_from8 gb 0 20 c 10 (by omega) (by omega) W
    simpa using this
  have hz20 : (zero10 l).length = 20 := by simp [zero10]; omega
  have hS := fun W => sum_Check (bs (zero10 l)) W (by rw [bs_size]; omega)
  rw [bs_data] at hS
  have hfl : ∀ j v, (cells8 (l.take 20))[j]? = some v → w.cell? ⟨gb, j, none⟩ = some v := fun j v hv => by
    refine h j v ?_
    rw [cells8, List.getElem?_map, List.getElem?_take] at hv
    split at hv
    · rw [cells8, List.getElem?_map]; exact hv
    · simp at hv
  have hle := sumN_le (zero10 l)
  have hn2 : numL ((l.drop 10).take 2) ≤ 65535 := by
    have := numL_le (l := (l.drop 10).take 2) (k := 2) (by simp; omega)
    omega
  have hcl : (cells8 (l.take 20)).length = 20 := by rw [cells8_length]; simp; omega
  have hc1 : ∀ v ∈ cells8 (l.take 20), v.oneCell' = true := fun v hv => by
    obtain ⟨b, _, rfl⟩ := List.mem_map.1 hv
    rfl
  unfold fitN
  generalize sumN (zero10 l) = sm at hS hle ⊢
  generalize numL ((l.drop 10).take 2) = told at c1 hn2 ⊢
  have hat : ∀ W, Blk W w.heap.size 258 (cells8 (l.take 20)) → At8 W w.heap.size (l.take 20) := fun W hB j u hu => by rw [hB.cell j]; exact hu
  have HAT := Lib.hid hat
  have h0l : l.take 20 ≠ [] := by
    intro e
    rw [e] at hcl
    simp [cells8] at hcl
  obtain ⟨m, hm⟩ : ∃ m, m = l.take 20 := ⟨_, rfl⟩
  have hzm : zero10 l = m.take 10 ++ [0, 0] ++ m.drop (10 + 2) := by rw [hm]; rfl
  rw [← hm] at HAT hcl hfl hc1
  have hml : m.length = 20 := by rw [cells8_length] at hcl; exact hcl
  generalize zero10 l = zl at hz20 hS hzm
  have HZ := Lib.hid hzm
  have HZL := Lib.hid hz20
  have HML := Lib.hid hml
  have HS := Lib.hid hS
  have H1 := Lib.hid c1
  have HFL := Lib.hid hfl
  have HCL := Lib.hid hcl
  have HC1 := Lib.hid hc1
  clear c1 h hzm hz20 hml hS hfl hcl hc1 hat hm h0l
  go_enter Try.func122, Try.ntmps122
  go_wp2_with fail
  refine H1.out.mono ?_
  rintro e w1 ⟨rfl, n1, rfl⟩
  have hbl : Blk ((w.drewN n1).alloc (Obj.cells #[Value.int IntKind.u8 0, Value.int IntKind.u8 0, Value.int IntKind.u8 0, Value.int IntKind.u8 0, Value.int IntKind.u8 0, Value.int IntKind.u8 0, Value.int IntKind.u8 0, Value.int IntKind.u8 0, Value.int IntKind.u8 0, Value.int IntKind.u8 0, Value.int IntKind.u8 0, Value.int IntKind.u8 0, Value.int IntKind.u8 0, Value.int IntKind.u8 0, Value.int IntKind.u8 0, Value.int IntKind.u8 0, Value.int IntKind.u8 0, Value.int IntKind.u8 0, Value.int IntKind.u8 0, Value.int IntKind.u8 0] 258)) w.heap.size 258 zeros20 := Blk.new (w.drewN n1) _ _
  have hbe : Below w.heap.size w ((w.drewN n1).alloc (Obj.cells #[Value.int IntKind.u8 0, Value.int IntKind.u8 0, Value.int IntKind.u8 0, Value.int IntKind.u8 0, Value.int IntKind.u8 0, Value.int IntKind.u8 0, Value.int IntKind.u8 0, Value.int IntKind.u8 0, Value.int IntKind.u8 0, Value.int IntKind.u8 0, Value.int IntKind.u8 0, Value.int IntKind.u8 0, Value.int IntKind.u8 0, Value.int IntKind.u8 0, Value.int IntKind.u8 0, Value.int IntKind.u8 0, Value.int IntKind.u8 0, Value.int IntKind.u8 0, Value.int IntKind.u8 0, Value.int IntKind.u8 0] 258)) := (below_drewN (show Below w.heap.size w w by go_grown) n1).trans (below_alloc _ (Nat.le_refl _))
  obtain ⟨w2, hrun, hB2, hb2⟩ : ∃ w2, Sem.run Try.prog (Builtin.copy_ #[156, 156] 3 #[.slice (some ⟨w.heap.size, 0, none⟩) 20 20, .slice (some ⟨gb, 0, none⟩) 20 c]) ((w.drewN n1).alloc (Obj.cells #[Value.int IntKind.u8 0, Value.int IntKind.u8 0, Value.int IntKind.u8 0, Value.int IntKind.u8 0, Value.int IntKind.u8 0, Value.int IntKind.u8 0, Value.int IntKind.u8 0, Value.int IntKind.u8 0, Value.int IntKind.u8 0, Value.int IntKind.u8 0, Value.int IntKind.u8 0, Value.int IntKind.u8 0, Value.int IntKind.u8 0, Value.int IntKind.u8 0, Value.int IntKind.u8 0, Value.int IntKind.u8 0, Value.int IntKind.u8 0, Value.int IntKind.u8 0, Value.int IntKind.u8 0, Value.int IntKind.u8 0] 258)) = .ok (.int .i64 20) w2 ∧ Blk w2 w.heap.size 258 (cells8 m) ∧ Below w.heap.size w w2 := by
    have hrun := run_copy_row (P := Try.prog) _ 156 156 3 5 w.heap.size 0 20 20 ⟨gb, 0, none⟩ 20 c zeros20.toArray 258 (cells8 m) Try.underlying156 (by kernel_rfl) hbl (by rw [HCL.out]; rfl) (fun j v hv => by
      have := (hbe.cell (p := ⟨gb, j, none⟩) hg).trans (HFL.out j v hv)
      rw [show (⟨gb, 0, none⟩ : Addr).add j = ⟨gb, j, none⟩ from by simp [Addr.add]; exact fun e => e.symm]
      exact this) (by rw [HCL.out]; simp [zeros20]) HC1.out
    rw [HCL.out] at hrun
    refine ⟨_, hrun, ?_, below_setRow hbe (Nat.le_refl _) _⟩
    have h := setRow_heap _ w.heap.size zeros20.toArray (zeros20.toArray.toList.take 0 ++ (cells8 m ++ zeros20.toArray.toList.drop (0 + 20))).toArray 258 _ hbl
    refine h.trans ?_
    rw [show zeros20.toArray.toList.drop (0 + 20) = [] from rfl]
    simp
  have hA2 : At8 w2 w.heap.size m := fun j u hu => by rw [hB2.cell j]; exact hu
  have c10 := hA2.cell 10 (by rw [HML.out]; omega)
  have c11 := hA2.cell 11 (by rw [HML.out]; omega)
  have f10 := hB2.frozen 10
  have f11 := hB2.frozen 11
  have hA4 := hA2.two 10 (by rw [HML.out]; omega)
  rw [← HZ.out] at hA4
  have hb4 : Below w.heap.size w ((w2.setCell ⟨w.heap.size, 10, none⟩ (.int .u8 0)).setCell ⟨w.heap.size, 10 + 1, none⟩ (.int .u8 0)) := by go_grown
  have hcz := conv_row _ w.heap.size 20 20 zl hA4 HZL.out.symm
  generalize (m[10]'(by rw [HML.out]; omega)).toNat = x10 at c10
  generalize (m[11]'(by rw [HML.out]; omega)).toNat = x11 at c11
  have HBB := Lib.hid hb4
  have hbq : ((65535 : Int) - (sm : Int) == (told : Int)) = ((65535 : Int) - (sm : Int) == (told : Int)) := rfl
  clear hbl hbe hb2 hB2 hA2 hA4 hb4 HAT HFL HCL HC1 H1
  go_wp2_with (go_at_call 182; refine (HS.out _).mono ?_; rintro e w5 ⟨rfl, n5, rfl⟩)
  go_ret
  exact ⟨rfl, below_drewN HBB.out _⟩
end Go.Proofs.Ythjigajielhkfaa
