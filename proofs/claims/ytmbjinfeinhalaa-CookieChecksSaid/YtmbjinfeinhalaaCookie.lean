/- Package cookie; the reference's. -/
import Derived.Test.YtmbjinfeinhalaaHashPair
import Derived.Laws.BitsAllLaws
import Derived.Laws.BitsLemmas
namespace Go.Proofs.Ytmbjinfeinhalaa
open Go.RowKit
set_option linter.unusedVariables false

theorem ofInt_i64 (a : Nat) (ha : a < 9223372036854775808) : (BitVec.ofInt 64 (a : Int)).toNat = a := by
  rw [BitVec.ofInt_natCast, BitVec.toNat_ofNat]; exact Nat.mod_eq_of_lt (by omega)
theorem i64_and_nat (a b : Nat) (ha : a < 9223372036854775808) (hb : b < 9223372036854775808) : bits .and .i64 (a : Int) (b : Int) = ((a &&& b : Nat) : Int) := by
  have hx : a &&& b < 2 ^ 63 := Nat.and_lt_two_pow _ (by omega)
  show IntKind.i64.wrap ((BitVec.ofInt 64 (a : Int) &&& BitVec.ofInt 64 (b : Int)).toNat : Int) = _
  rw [BitVec.toNat_and, ofInt_i64 a ha, ofInt_i64 b hb, IntKind.wrap_i64]
  omega
theorem and_31 (n : Int) (h : 0 ≤ n) (h' : n < 9223372036854775808) : bits BinOp.and IntKind.i64 n 31 = n % 32 := by
  obtain ⟨k, rfl⟩ := Int.eq_ofNat_of_zero_le h
  have h1 := i64_and_nat k 31 (by omega) (by omega)
  rw [show (31 : Nat) = 2 ^ 5 - 1 from rfl, Nat.and_two_pow_sub_one_eq_mod] at h1
  rw [show (31 : Int) = ((2 ^ 5 - 1 : Nat) : Int) from rfl, h1]
  omega
theorem and_24 (n : Int) (h : 0 ≤ n) (h' : n ≤ 4294967295) : bits BinOp.and IntKind.u32 n 16777215 = n % 16777216 := by
  obtain ⟨k, rfl⟩ := Int.eq_ofNat_of_zero_le h
  have h1 := u32_and_nat k 16777215 (by omega) (by omega)
  rw [show (16777215 : Nat) = 2 ^ 24 - 1 from rfl, Nat.and_two_pow_sub_one_eq_mod] at h1
  rw [show (16777215 : Int) = ((2 ^ 24 - 1 : Nat) : Int) from rfl, h1]
  omega
theorem or_3 (x s : Int) (h0 : 0 ≤ x) (h1 : x ≤ 31) (h2 : 0 ≤ s) (h3 : s ≤ 7) : bits BinOp.or IntKind.u32 (x * 8) s = x * 8 + s := by
  obtain ⟨a, rfl⟩ := Int.eq_ofNat_of_zero_le h0
  obtain ⟨b, rfl⟩ := Int.eq_ofNat_of_zero_le h2
  have h := u32_or_nat (a * 8) b (by omega) (by omega)
  rw [nat_join 3 (a * 8) b (by omega) (by omega)] at h
  rw [show ((a * 8 : Nat) : Int) = (a : Int) * 8 from by omega] at h
  rw [h]; omega
theorem or_24 (x s : Int) (h0 : 0 ≤ x) (h1 : x ≤ 255) (h2 : 0 ≤ s) (h3 : s ≤ 16777215) : bits BinOp.or IntKind.u32 (x * 16777216) s = x * 16777216 + s := by
  obtain ⟨a, rfl⟩ := Int.eq_ofNat_of_zero_le h0
  obtain ⟨b, rfl⟩ := Int.eq_ofNat_of_zero_le h2
  have h := u32_or_nat (a * 16777216) b (by omega) (by omega)
  rw [nat_join 24 (a * 16777216) b (by omega) (by omega)] at h
  rw [show ((a * 16777216 : Nat) : Int) = (a : Int) * 16777216 from by omega] at h
  rw [h]; omega
theorem u32_wrap (n : Int) : IntKind.u32.wrap n = n % 4294967296 := IntKind.wrap_u32 n
theorem xorW_bd (x y : Int) : 0 ≤ xorW x y ∧ xorW x y ≤ 18446744073709551615 := by
  have h : ∀ z : Int, 0 ≤ IntKind.u64.wrap z ∧ IntKind.u64.wrap z ≤ 18446744073709551615 := fun z => by
    rw [IntKind.wrap_u64]
    omega
  exact h _
theorem sipF_bd (k0 k1 : Int) (l : List UInt8) : 0 ≤ sipF k0 k1 l ∧ sipF k0 k1 l ≤ 18446744073709551615 := xorW_bd _ _

/-- The second key: irs and the first eight bits taken in. -/
def key2 (k1 irs first : Int) : Int := xorW (xorW k1 irs) (first * 4294967296)
/-- The lowest 24 bits of the hash. -/
def ckSum (k0 k1 fa fp ta tp irs first : Int) : Int := sipF k0 (key2 k1 irs first) (pairL fa fp ta tp) % 16777216
def keyC (k0 k1 : Int) : List Value := [.int .u64 k0, .int .u64 k1]

set_option maxRecDepth 100000 in
theorem cookie_sum (g : Nat) (k0 k1 fa fp ta tp irs first : Int) (w : World) (hK : Blk w g 174 (keyC k0 k1)) (h0 : 0 ≤ fa) (h0' : fa ≤ 4294967295) (h1 : 0 ≤ ta) (h1' : ta ≤ 4294967295)
    (h2 : 0 ≤ irs) (h2' : irs ≤ 4294967295) (h3 : 0 ≤ first) (h3' : first ≤ 255) :
    Calls Try.prog 132 #[.pointer (some ⟨g, 0, none⟩), .agg (endC fa fp).toArray, .agg (endC ta tp).toArray, .int .u32 irs, .int .u32 first] w fun e w' =>
      e = .returned (.int .u32 (ckSum k0 k1 fa fp ta tp irs first)) ∧ Below w.heap.size w w' := by
  have c1 := fun w => hash_Pair k0 (key2 k1 irs first) fa fp ta tp w h0 h0' h1 h1'
  have hbd := sipF_bd k0 (key2 k1 irs first) (pairL fa fp ta tp)
  unfold ckSum
  generalize sipF k0 (key2 k1 irs first) (pairL fa fp ta tp) = r at c1 hbd ⊢
  have e1 : IntKind.u64.wrap (first * 4294967296) = first * 4294967296 := IntWalk.u64_in _ (by omega)
  have e2 : IntKind.u64.wrap first = first := IntWalk.u64_in _ (by omega)
  have e3 : IntKind.u64.wrap irs = irs := IntWalk.u64_in _ (by omega)
  have e4 : bits BinOp.xor IntKind.u64 (bits BinOp.xor IntKind.u64 k1 irs) (first * 4294967296) = key2 k1 irs first := rfl
  have e5 := u32_wrap r
  have e6 := and_24 (r % 4294967296) (by omega) (by omega)
  have H1 := Lib.hid c1
  have HKK := Lib.hid hK
  clear c1 hK
  unfold endC at *
  go_enter Try.func132, Try.ntmps132
  go_wp2_with fail
  have hK0 : Blk ((w.alloc (Obj.cells #[Value.int IntKind.u32 fa, Value.int IntKind.i64 fp] 31)).alloc (Obj.cells #[Value.int IntKind.u32 ta, Value.int IntKind.i64 tp] 31)) w.heap.size 31 [Value.int IntKind.u32 fa, Value.int IntKind.i64 fp] := (Blk.new w _ _).alloc _
  have hK1 : Blk ((w.alloc (Obj.cells #[Value.int IntKind.u32 fa, Value.int IntKind.i64 fp] 31)).alloc (Obj.cells #[Value.int IntKind.u32 ta, Value.int IntKind.i64 tp] 31)) (w.heap.size + 1) 31 [Value.int IntKind.u32 ta, Value.int IntKind.i64 tp] := by
    have h := Blk.new (w.alloc (Obj.cells #[Value.int IntKind.u32 fa, Value.int IntKind.i64 fp] 31)) 31 [Value.int IntKind.u32 ta, Value.int IntKind.i64 tp]
    simp only [World.size_alloc] at h
    exact h
  have hKg := (HKK.out.alloc (Obj.cells #[Value.int IntKind.u32 fa, Value.int IntKind.i64 fp] 31)).alloc (Obj.cells #[Value.int IntKind.u32 ta, Value.int IntKind.i64 tp] 31)
  have hO : Below w.heap.size w ((w.alloc (Obj.cells #[Value.int IntKind.u32 fa, Value.int IntKind.i64 fp] 31)).alloc (Obj.cells #[Value.int IntKind.u32 ta, Value.int IntKind.i64 tp] 31)) := by go_grown
  generalize (w.alloc (Obj.cells #[Value.int IntKind.u32 fa, Value.int IntKind.i64 fp] 31)).alloc (Obj.cells #[Value.int IntKind.u32 ta, Value.int IntKind.i64 tp] 31) = w1 at hK0 hK1 hKg hO ⊢
  have q0 := Kin.cell (hK0.at_ (i := 0) (v := .int .u32 fa) rfl)
  have q1 := Kin.cell (hK0.at_ (i := 1) (v := .int .i64 fp) rfl)
  have q2 := Kin.cell (hK1.at_ (i := 0) (v := .int .u32 ta) rfl)
  have q3 := Kin.cell (hK1.at_ (i := 1) (v := .int .i64 tp) rfl)
  have q4 := Kin.cell (hKg.at_ (i := 0) (v := .int .u64 k0) rfl)
  have q5 := Kin.cell (hKg.at_ (i := 1) (v := .int .u64 k1) rfl)
  have HO := Lib.hid hO
  clear hK0 hK1 hO hKg
  refine wp_region_kin (by kernel_rfl) (by kernel_rfl) ?_
  repeat go_big_quiet_step ((go_at_call 38; exact kin_made (H1.out _)))
  refine wpQuiet_nil ?_
  intro q
  have hO2 := HO.out.trans (q.below.mono HO.out.size)
  clear q0 q1 q2 q3 q4 q5
  generalize q.at_ = w2 at hO2 ⊢
  have HO2 := Lib.hid hO2
  clear hO2
  go_wp2
  go_ret
  exact ⟨rfl, HO2.out⟩

set_option maxRecDepth 100000 in
theorem ref_made (k0 k1 fa fp ta tp irs first : Int) (w : World) (h0 : 0 ≤ fa) (h0' : fa ≤ 4294967295) (h1 : 0 ≤ ta) (h1' : ta ≤ 4294967295)
    (h4 : -9223372036854775808 ≤ fp) (h4' : fp ≤ 9223372036854775807) (h5 : -9223372036854775808 ≤ tp) (h5' : tp ≤ 9223372036854775807) (h2 : 0 ≤ irs) (h2' : irs ≤ 4294967295) (h3 : 0 ≤ first) (h3' : first ≤ 255) :
    Calls Try.prog 133 #[.agg (keyC k0 k1).toArray, .agg (endC fa fp).toArray, .agg (endC ta tp).toArray, .int .u32 irs, .int .i64 first] w fun e w' =>
      e = .returned (.int .u32 (first * 16777216 + ckSum k0 k1 fa fp ta tp irs first)) ∧ Below w.heap.size w w' := by
  have c1 := fun w => ref_HashPair k0 (key2 k1 irs first) fa fp ta tp w h0 h0' h1 h1' h4 h4' h5 h5'
  have hbd := sipF_bd k0 (key2 k1 irs first) (pairL fa fp ta tp)
  unfold ckSum
  generalize sipF k0 (key2 k1 irs first) (pairL fa fp ta tp) = r at c1 hbd ⊢
  have e1 : IntKind.u64.wrap (first * 4294967296) = first * 4294967296 := IntWalk.u64_in _ (by omega)
  have e2 : IntKind.u64.wrap first = first := IntWalk.u64_in _ (by omega)
  have e3 : IntKind.u64.wrap irs = irs := IntWalk.u64_in _ (by omega)
  have e4 : bits BinOp.xor IntKind.u64 (bits BinOp.xor IntKind.u64 k1 irs) (first * 4294967296) = key2 k1 irs first := rfl
  have e5 : IntKind.u32.wrap (first * 16777216) = first * 16777216 := IntWalk.u32_in _ (by omega)
  have e6 : IntKind.u32.wrap first = first := IntWalk.u32_in _ (by omega)
  have H1 := Lib.hid c1
  clear c1
  unfold endC keyC at *
  go_enter Try.func133, Try.ntmps133
  go_wp2_with fail
  refine (H1.out _).mono ?_
  rintro e w1 ⟨rfl, hb1⟩
  have hO : Below w.heap.size w w1 := (show Below w.heap.size w (((w.alloc _).alloc _).alloc _) by go_grown).trans (hb1.mono (by simp; omega))
  have HO := Lib.hid hO
  clear hb1 hO
  go_wp2
  go_ret
  exact ⟨rfl, HO.out⟩
end Go.Proofs.Ytmbjinfeinhalaa
