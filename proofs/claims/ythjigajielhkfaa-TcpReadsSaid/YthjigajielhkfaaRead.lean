/- Bytes read: a string's bytes in a block of their own; Get16, Get32. -/
import Derived.Test.YthjigajielhkfaaWire2
import Derived.Lib.ConvBytes
namespace Go.Proofs.Ythjigajielhkfaa
open Go.RowKit
set_option linter.unusedVariables false

/-- From its head on, block g holds these bytes. -/
def At8 (w : World) (g : Nat) (l : List UInt8) : Prop := ∀ (j : Nat) (u : Value), (cells8 l)[j]? = some u → w.cell? ⟨g, j, none⟩ = some u
theorem At8.cell {w : World} {g : Nat} {l : List UInt8} (h : At8 w g l) (j : Nat) (hj : j < l.length) : w.cell? ⟨g, j, none⟩ = some (.int .u8 (l[j].toNat : Int)) := h j _ (by simp [cells8, hj])
theorem At8.below {w w' : World} {g B : Nat} {l : List UInt8} (h : At8 w g l) (hb : Below B w w') (hg : g < B) : At8 w' g l := fun j u hu => by
  rw [hb.cell (p := ⟨g, j, none⟩) hg]
  exact h j u hu
theorem At8.drewN {w : World} {g : Nat} {l : List UInt8} (h : At8 w g l) (n : Nat) : At8 (w.drewN n) g l := h
theorem At8.far {w : World} {g : Nat} {l : List UInt8} (h : At8 w g l) {p : Addr} (hp : p.block ≠ g) (x : Value) : At8 (w.setCell p x) g l := fun j u hu => by
  rw [World.cell?_setCell_other _ _ _ _ (fun e => hp (by rw [e]))]
  exact h j u hu
theorem At8.blk {w : World} {g : Nat} {l : List UInt8} {cs : List Value} {t : TypeId} (h : Blk w g t cs) (hc : cs.take l.length = cells8 l) : At8 w g l := fun j u hu => by
  rw [h.cell j]
  rw [← hc, List.getElem?_take] at hu
  split at hu
  · exact hu
  · cases hu

/-- '[]byte(s)'. -/
theorem bytes_of (s : ByteArray) (w : World) : ∃ (c : Nat) (w1 : World), Sem.run Try.prog (convert 9 156 (.string s)) w = .ok (.slice (some ⟨w.heap.size, 0, none⟩) s.size c) w1 ∧ s.size ≤ c ∧ Below w.heap.size w w1 ∧ w1.heap.size = w.heap.size + 1 ∧
    At8 w1 w.heap.size s.data.toList ∧ ∀ j, j < s.size → w1.frozen? ⟨w.heap.size, j, none⟩ = false := by
  have hn := Lib.bytesWorld_at_new w 5 s
  have hcs : s.size ≤ (Lib.bytesCells w 5 s).size := by simp [Lib.bytesCells]
  refine ⟨_, _, Lib.run_convert_string_bytes w 9 156 5 s Try.underlying9 Try.underlying156 Try.underlying5, grownCap_ge _ _ _ _, ⟨rfl, rfl, rfl, ?_, fun i hi => Lib.bytesWorld_at_old w 5 s i hi⟩, Lib.bytesWorld_size _ _ _, ?_, ?_⟩
  · rw [Lib.bytesWorld_size]; omega
  · intro j u hu
    have hj : j < s.data.toList.length := by
      have := (List.getElem?_eq_some_iff.1 hu).1
      rwa [cells8_length] at this
    rw [Lib.bytesWorld_cell w 5 s j (by rw [Lib.size_eq]; exact hj)]
    rw [cells8, List.getElem?_map, List.getElem?_eq_getElem hj, Option.map_some] at hu
    rw [← hu]
    simp only [List.getD]
    rw [List.getElem?_eq_getElem hj]
    rfl
  · intro j hj
    simp only [World.frozen?, hn]
    simp
    omega

theorem u16_join (a b : Nat) (ha : a ≤ 255) (hb : b ≤ 255) : bits BinOp.or IntKind.u16 ((a : Int) * 256) (b : Int) = (a : Int) * 256 + (b : Int) := by
  have h := u16_or_nat (a * 256) b (by omega) (by omega)
  rw [nat_join 8 (a * 256) b (by omega) (by omega)] at h
  rw [show ((a * 256 : Nat) : Int) = (a : Int) * 256 from by omega] at h
  rw [h]; omega
theorem wire_Get16_at (g o len cap x y : Nat) (w : World) (h0 : w.cell? ⟨g, o, none⟩ = some (.int .u8 (x : Int))) (h1 : w.cell? ⟨g, o + 1, none⟩ = some (.int .u8 (y : Int))) (hx : x ≤ 255) (hy : y ≤ 255) (hl : 2 ≤ len) :
    Calls Try.prog 120 #[.slice (some ⟨g, o, none⟩) len cap] w fun e w' => e = .returned (.int .u16 ((x : Int) * 256 + (y : Int))) ∧ ∃ n, w' = w.drewN n := by
  have e1 : IntKind.u16.wrap ((x : Int) * 256) = (x : Int) * 256 := IntWalk.u16_in _ (by omega)
  have e2 := u16_join x y hx hy
  have e3 : IntKind.u16.wrap (x : Int) = (x : Int) := IntWalk.u16_in _ (by omega)
  have e4 : IntKind.u16.wrap (y : Int) = (y : Int) := IntWalk.u16_in _ (by omega)
  have b0 : (0 : Int) < (len : Int) := by omega
  have b1 : (1 : Int) < (len : Int) := by omega
  go_enter Try.func120, Try.ntmps120
  go_wp2_with fail
  go_quiet (fail)
  go_wp2
  go_ret
  exact ⟨rfl, _, rfl⟩
theorem wire_Get16 (g o len cap : Nat) (l : List UInt8) (w : World) (h : At8 w g l) (ho : o + 2 ≤ l.length) (hl : 2 ≤ len) :
    Calls Try.prog 120 #[.slice (some ⟨g, o, none⟩) len cap] w fun e w' => e = .returned (.int .u16 (numL ((l.drop o).take 2) : Int)) ∧ ∃ n, w' = w.drewN n := by
  rw [numL_two l o ho]
  have h0 := h.cell o (by omega)
  have h1 := h.cell (o + 1) (by omega)
  have hx := (l[o]'(by omega)).toNat_lt
  have hy := (l[o + 1]'(by omega)).toNat_lt
  have := wire_Get16_at g o len cap _ _ w h0 h1 (by omega) (by omega) hl
  rw [show (((l[o]'(by omega)).toNat * 256 + (l[o + 1]'(by omega)).toNat : Nat) : Int) = ((l[o]'(by omega)).toNat : Int) * 256 + ((l[o + 1]'(by omega)).toNat : Int) from by omega]
  exact this

theorem numL_from : ∀ (m : List UInt8) (a : Nat), m.foldl (fun a b => a * 256 + b.toNat) a = a * 256 ^ m.length + numL m
  | [], a => by simp [numL]
  | b :: m, a => by
    have h1 := numL_from m (a * 256 + b.toNat)
    have h2 := numL_from m (0 * 256 + b.toNat)
    have h3 : numL (b :: m) = m.foldl (fun a b => a * 256 + b.toNat) (0 * 256 + b.toNat) := rfl
    rw [h3, h2, List.foldl_cons, h1, List.length_cons, Nat.pow_succ, Nat.add_mul, Nat.mul_assoc a, Nat.mul_comm 256]
    simp
    omega
theorem numL_app (l m : List UInt8) : numL (l ++ m) = numL l * 256 ^ m.length + numL m := by
  rw [← numL_from m (numL l)]
  simp [numL]
theorem numL_four (l : List UInt8) (o : Nat) (h : o + 4 ≤ l.length) : numL ((l.drop o).take 4) = numL ((l.drop o).take 2) * 65536 + numL ((l.drop (o + 2)).take 2) := by
  have e : (l.drop o).take 4 = (l.drop o).take 2 ++ (l.drop (o + 2)).take 2 := by
    rw [show 4 = 2 + 2 from rfl, List.take_add, List.drop_drop]
  have hl : ((l.drop (o + 2)).take 2).length = 2 := by simp; omega
  rw [e, numL_app, hl]
theorem u32_join (a b : Nat) (ha : a ≤ 65535) (hb : b ≤ 65535) : bits BinOp.or IntKind.u32 ((a : Int) * 65536) (b : Int) = (a : Int) * 65536 + (b : Int) := by
  have h := u32_or_nat (a * 65536) b (by omega) (by omega)
  rw [nat_join 16 (a * 65536) b (by omega) (by omega)] at h
  rw [show ((a * 65536 : Nat) : Int) = (a : Int) * 65536 from by omega] at h
  rw [h]; omega
set_option maxRecDepth 100000 in
theorem wire_Get32 (g o len cap : Nat) (l : List UInt8) (w : World) (h : At8 w g l) (ho : o + 4 ≤ l.length) (hl : 4 ≤ len) (hc : len ≤ cap) :
    Calls Try.prog 121 #[.slice (some ⟨g, o, none⟩) len cap] w fun e w' => e = .returned (.int .u32 (numL ((l.drop o).take 4) : Int)) ∧ ∃ n, w' = w.drewN n := by
  rw [numL_four l o ho]
  have n1 := numL_le (l := (l.drop o).take 2) (k := 2) (by simp; omega)
  have n2 := numL_le (l := (l.drop (o + 2)).take 2) (k := 2) (by simp; omega)
  have c1 := fun n => wire_Get16 g o len cap l (w.drewN n) (h.drewN n) (by omega) (by omega)
  have c2 := fun n => wire_Get16 g (o + 2) (len - 2) (cap - 2) l (w.drewN n) (h.drewN n) (by omega) (by omega)
  generalize numL ((l.drop o).take 2) = x at c1 n1 ⊢
  generalize numL ((l.drop (o + 2)).take 2) = y at c2 n2 ⊢
  have hsl : ∀ n, (Instr.slice 156 (.slice (some ⟨g, o, none⟩) len cap) (some (.int .i64 2)) none none).run Try.prog (w.drewN n) = .ok (.slice (some ⟨g, o + 2, none⟩) (len - 2) (cap - 2)) (w.drewN n) := fun n => by
    have := run_from8 g o len cap 2 (by omega) (by omega) (w.drewN n)
    simpa using this
  have e1 : IntKind.u32.wrap ((x : Int) * 65536) = (x : Int) * 65536 := IntWalk.u32_in _ (by omega)
  have e2 := u32_join x y (by omega) (by omega)
  have e3 : IntKind.u32.wrap (x : Int) = (x : Int) := IntWalk.u32_in _ (by omega)
  have e4 : IntKind.u32.wrap (y : Int) = (y : Int) := IntWalk.u32_in _ (by omega)
  have H1 := Lib.hid c1
  have H2 := Lib.hid c2
  clear c1 c2
  rw [show ((x * 65536 + y : Nat) : Int) = (x : Int) * 65536 + (y : Int) from by omega]
  go_enter Try.func121, Try.ntmps121
  go_wp2_with fail
  go_quiet ((go_at_call 120; first | (with_reducible exact Calls.quiet_of (H1.out _)) | (with_reducible exact Calls.quiet_of (H2.out _))))
  go_wp2
  go_ret
  exact ⟨rfl, _, rfl⟩
end Go.Proofs.Ythjigajielhkfaa
