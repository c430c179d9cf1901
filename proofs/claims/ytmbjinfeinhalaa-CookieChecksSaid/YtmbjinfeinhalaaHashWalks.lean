/- Contracts of package hash: the round. -/
import Derived.Test.YtmbjinfeinhalaaMem
import Derived.Test.YtmbjinfeinhalaaBytes
import Derived.StillTailTactics
namespace Go.Proofs.Ytmbjinfeinhalaa
open Go.RowKit
set_option linter.unusedVariables false

/-- Four words. -/
structure V4 where
  a : Int
  b : Int
  c : Int
  d : Int
def addW (x y : Int) : Int := IntKind.u64.wrap (x + y)
def xorW (x y : Int) : Int := bits BinOp.xor IntKind.u64 x y
def rotW (x : Int) (n : Nat) : Int := bits BinOp.or IntKind.u64 (IntKind.u64.wrap (x * 2 ^ n)) (x / 2 ^ (64 - n))
def v4C (v : V4) : List Value := [.int .u64 v.a, .int .u64 v.b, .int .u64 v.c, .int .u64 v.d]
/-- One ROUND. -/
def rnd (v : V4) : V4 :=
  let a1 := addW v.a v.b
  let b1 := xorW (rotW v.b 13) a1
  let a2 := rotW a1 32
  let c1 := addW v.c v.d
  let d1 := xorW (rotW v.d 16) c1
  let a3 := addW a2 d1
  let d2 := xorW (rotW d1 21) a3
  let c2 := addW c1 b1
  let b2 := xorW (rotW b1 17) c2
  ⟨a3, b2, rotW c2 32, d2⟩

/-- A number taken in. -/
def absorb (v : V4) (m : Int) : V4 :=
  let u := rnd (rnd ⟨v.a, v.b, v.c, xorW v.d m⟩)
  ⟨xorW u.a m, u.b, u.c, u.d⟩

theorem bits_Rot (x : Int) (n : Nat) (w : World) (hn : n = 13 ∨ n = 16 ∨ n = 17 ∨ n = 21 ∨ n = 32) :
    Calls Try.prog 153 #[.int .u64 x, .int .i64 n] w fun e w' => e = .returned (.int .u64 (rotW x n)) ∧ w = w' := by
  have m1 : bits BinOp.and IntKind.u64 13 63 = 13 := by decide
  have m2 : bits BinOp.and IntKind.u64 16 63 = 16 := by decide
  have m3 : bits BinOp.and IntKind.u64 17 63 = 17 := by decide
  have m4 : bits BinOp.and IntKind.u64 21 63 = 21 := by decide
  have m5 : bits BinOp.and IntKind.u64 32 63 = 32 := by decide
  rcases hn with rfl | rfl | rfl | rfl | rfl
  all_goals
    go_enter Try.func153, Try.ntmps153
    go_wp2
    go_ret
    exact ⟨ret_int (by simp [rotW]), rfl⟩

theorem ref_round (x : Int) (n : Nat) (w : World) (hn : n = 13 ∨ n = 16 ∨ n = 17 ∨ n = 21 ∨ n = 32) :
    Calls Try.prog 147 #[.int .u64 x, .int .i64 n] w fun e w' => e = .returned (.int .u64 (rotW x n)) ∧ ∃ m, w' = w.drewN m := by
  rcases hn with rfl | rfl | rfl | rfl | rfl
  all_goals
    go_enter Try.func147, Try.ntmps147
    go_wp2_with fail
    go_quiet (fail)
    go_wp2
    go_ret
    exact ⟨ret_int (by simp [rotW]), _, rfl⟩

set_option maxRecDepth 100000 in
set_option maxHeartbeats 1000000 in
theorem hash_round (g : Nat) (v : V4) (w : World) (hB : Blk w g 194 (v4C v)) :
    Calls Try.prog 145 #[.pointer (some ⟨g, 0, none⟩)] w fun e w' => e = .returned (.tuple #[]) ∧ Blk w' g 194 (v4C (rnd v)) ∧ Only (· = g) w w' := by
  obtain ⟨a, b, c, d⟩ := v
  have hadd : ∀ x y : Int, IntKind.u64.wrap (x + y) = addW x y := fun _ _ => rfl
  have hxor : ∀ x y : Int, bits BinOp.xor IntKind.u64 x y = xorW x y := fun _ _ => rfl
  have ho : Only (fun k => k = g) w w := Only.refl _ _
  have k0 := hB.at_ (i := 0) (v := .int .u64 a) rfl
  have k1 := hB.at_ (i := 1) (v := .int .u64 b) rfl
  have k2 := hB.at_ (i := 2) (v := .int .u64 c) rfl
  have k3 := hB.at_ (i := 3) (v := .int .u64 d) rfl
  have f0 := hB.frozen 0
  have f1 := hB.frozen 1
  have f2 := hB.frozen 2
  have f3 := hB.frozen 3
  have HB := Lib.hid hB
  have HO := Lib.hid ho
  clear hB ho
  go_enter Try.func145, Try.ntmps145
  go_wp2_with fail
  refine wp_region_still_tail 11 (by kernel_rfl) (by kernel_rfl) ?_
  simp only [List.take_succ_cons, List.take_zero, List.drop_succ_cons, List.drop_zero]
  change wpStill _ _ w.drew _ _ _
  repeat still_step
  refine wpStill_nil ?_
  go_wp2_with fail
  have hB : Blk ((w.setCell ⟨g, 0, none⟩ (.int .u64 (addW a b))).drew) g 194 _ := (HB.out.set_ 0 _).drew
  have ho : Only (fun k => k = g) w ((w.setCell ⟨g, 0, none⟩ (.int .u64 (addW a b))).drew) := HO.out.here.drew
  clear HB HO k0 k1 k2 k3 f0 f1 f2 f3
  generalize (w.setCell ⟨g, 0, none⟩ (.int .u64 (addW a b))).drew = w1 at hB ho ⊢
  generalize Ha1 : addW a b = a1 at hB ⊢
  have Ha1 := Lib.hid Ha1
  have k0 := hB.at_ (i := 0) (v := .int .u64 a1) rfl
  have k1 := hB.at_ (i := 1) (v := .int .u64 b) rfl
  have k2 := hB.at_ (i := 2) (v := .int .u64 c) rfl
  have k3 := hB.at_ (i := 3) (v := .int .u64 d) rfl
  have f0 := hB.frozen 0
  have f1 := hB.frozen 1
  have f2 := hB.frozen 2
  have f3 := hB.frozen 3
  have HB := Lib.hid hB
  have HO := Lib.hid ho
  clear hB ho
  refine wp_region_still_tail 13 (by kernel_rfl) (by kernel_rfl) ?_
  simp only [List.take_succ_cons, List.take_zero, List.drop_succ_cons, List.drop_zero]
  change wpStill _ _ w1.drew _ _ _
  repeat still_step
  still_call ((bits_Rot b 13 w1.drew (by decide)).mono fun _ _ h => ⟨h.1, h.2.symm⟩)
  repeat still_step
  refine wpStill_nil ?_
  go_wp2_with fail
  have hB : Blk ((w1.setCell ⟨g, 1, none⟩ (.int .u64 (xorW (rotW b 13) a1))).drew) g 194 _ := (HB.out.set_ 1 _).drew
  have ho : Only (fun k => k = g) w ((w1.setCell ⟨g, 1, none⟩ (.int .u64 (xorW (rotW b 13) a1))).drew) := HO.out.here.drew
  clear HB HO k0 k1 k2 k3 f0 f1 f2 f3
  generalize (w1.setCell ⟨g, 1, none⟩ (.int .u64 (xorW (rotW b 13) a1))).drew = w2 at hB ho ⊢
  generalize Hb1 : xorW (rotW b 13) a1 = b1 at hB ⊢
  have Hb1 := Lib.hid Hb1
  have k0 := hB.at_ (i := 0) (v := .int .u64 a1) rfl
  have k1 := hB.at_ (i := 1) (v := .int .u64 b1) rfl
  have k2 := hB.at_ (i := 2) (v := .int .u64 c) rfl
  have k3 := hB.at_ (i := 3) (v := .int .u64 d) rfl
  have f0 := hB.frozen 0
  have f1 := hB.frozen 1
  have f2 := hB.frozen 2
  have f3 := hB.frozen 3
  have HB := Lib.hid hB
  have HO := Lib.hid ho
  clear hB ho
  refine wp_region_still_tail 8 (by kernel_rfl) (by kernel_rfl) ?_
  simp only [List.take_succ_cons, List.take_zero, List.drop_succ_cons, List.drop_zero]
  change wpStill _ _ w2.drew _ _ _
  repeat still_step
  still_call ((bits_Rot a1 32 w2.drew (by decide)).mono fun _ _ h => ⟨h.1, h.2.symm⟩)
  repeat still_step
  refine wpStill_nil ?_
  go_wp2_with fail
  have hB : Blk ((w2.setCell ⟨g, 0, none⟩ (.int .u64 (rotW a1 32))).drew) g 194 _ := (HB.out.set_ 0 _).drew
  have ho : Only (fun k => k = g) w ((w2.setCell ⟨g, 0, none⟩ (.int .u64 (rotW a1 32))).drew) := HO.out.here.drew
  clear HB HO k0 k1 k2 k3 f0 f1 f2 f3
  generalize (w2.setCell ⟨g, 0, none⟩ (.int .u64 (rotW a1 32))).drew = w3 at hB ho ⊢
  generalize Ha2 : rotW a1 32 = a2 at hB ⊢
  have Ha2 := Lib.hid Ha2
  have k0 := hB.at_ (i := 0) (v := .int .u64 a2) rfl
  have k1 := hB.at_ (i := 1) (v := .int .u64 b1) rfl
  have k2 := hB.at_ (i := 2) (v := .int .u64 c) rfl
  have k3 := hB.at_ (i := 3) (v := .int .u64 d) rfl
  have f0 := hB.frozen 0
  have f1 := hB.frozen 1
  have f2 := hB.frozen 2
  have f3 := hB.frozen 3
  have HB := Lib.hid hB
  have HO := Lib.hid ho
  clear hB ho
  refine wp_region_still_tail 11 (by kernel_rfl) (by kernel_rfl) ?_
  simp only [List.take_succ_cons, List.take_zero, List.drop_succ_cons, List.drop_zero]
  change wpStill _ _ w3.drew _ _ _
  repeat still_step
  refine wpStill_nil ?_
  go_wp2_with fail
  have hB : Blk ((w3.setCell ⟨g, 2, none⟩ (.int .u64 (addW c d))).drew) g 194 _ := (HB.out.set_ 2 _).drew
  have ho : Only (fun k => k = g) w ((w3.setCell ⟨g, 2, none⟩ (.int .u64 (addW c d))).drew) := HO.out.here.drew
  clear HB HO k0 k1 k2 k3 f0 f1 f2 f3
  generalize (w3.setCell ⟨g, 2, none⟩ (.int .u64 (addW c d))).drew = w4 at hB ho ⊢
  generalize Hc1 : addW c d = c1 at hB ⊢
  have Hc1 := Lib.hid Hc1
  have k0 := hB.at_ (i := 0) (v := .int .u64 a2) rfl
  have k1 := hB.at_ (i := 1) (v := .int .u64 b1) rfl
  have k2 := hB.at_ (i := 2) (v := .int .u64 c1) rfl
  have k3 := hB.at_ (i := 3) (v := .int .u64 d) rfl
  have f0 := hB.frozen 0
  have f1 := hB.frozen 1
  have f2 := hB.frozen 2
  have f3 := hB.frozen 3
  have HB := Lib.hid hB
  have HO := Lib.hid ho
  clear hB ho
  refine wp_region_still_tail 13 (by kernel_rfl) (by kernel_rfl) ?_
  simp only [List.take_succ_cons, List.take_zero, List.drop_succ_cons, List.drop_zero]
  change wpStill _ _ w4.drew _ _ _
  repeat still_step
  still_call ((bits_Rot d 16 w4.drew (by decide)).mono fun _ _ h => ⟨h.1, h.2.symm⟩)
  repeat still_step
  refine wpStill_nil ?_
  go_wp2_with fail
  have hB : Blk ((w4.setCell ⟨g, 3, none⟩ (.int .u64 (xorW (rotW d 16) c1))).drew) g 194 _ := (HB.out.set_ 3 _).drew
  have ho : Only (fun k => k = g) w ((w4.setCell ⟨g, 3, none⟩ (.int .u64 (xorW (rotW d 16) c1))).drew) := HO.out.here.drew
  clear HB HO k0 k1 k2 k3 f0 f1 f2 f3
  generalize (w4.setCell ⟨g, 3, none⟩ (.int .u64 (xorW (rotW d 16) c1))).drew = w5 at hB ho ⊢
  generalize Hd1 : xorW (rotW d 16) c1 = d1 at hB ⊢
  have Hd1 := Lib.hid Hd1
  have k0 := hB.at_ (i := 0) (v := .int .u64 a2) rfl
  have k1 := hB.at_ (i := 1) (v := .int .u64 b1) rfl
  have k2 := hB.at_ (i := 2) (v := .int .u64 c1) rfl
  have k3 := hB.at_ (i := 3) (v := .int .u64 d1) rfl
  have f0 := hB.frozen 0
  have f1 := hB.frozen 1
  have f2 := hB.frozen 2
  have f3 := hB.frozen 3
  have HB := Lib.hid hB
  have HO := Lib.hid ho
  clear hB ho
  refine wp_region_still_tail 11 (by kernel_rfl) (by kernel_rfl) ?_
  simp only [List.take_succ_cons, List.take_zero, List.drop_succ_cons, List.drop_zero]
  change wpStill _ _ w5.drew _ _ _
  repeat still_step
  refine wpStill_nil ?_
  go_wp2_with fail
  have hB : Blk ((w5.setCell ⟨g, 0, none⟩ (.int .u64 (addW a2 d1))).drew) g 194 _ := (HB.out.set_ 0 _).drew
  have ho : Only (fun k => k = g) w ((w5.setCell ⟨g, 0, none⟩ (.int .u64 (addW a2 d1))).drew) := HO.out.here.drew
  clear HB HO k0 k1 k2 k3 f0 f1 f2 f3
  generalize (w5.setCell ⟨g, 0, none⟩ (.int .u64 (addW a2 d1))).drew = w6 at hB ho ⊢
  generalize Ha3 : addW a2 d1 = a3 at hB ⊢
  have Ha3 := Lib.hid Ha3
  have k0 := hB.at_ (i := 0) (v := .int .u64 a3) rfl
  have k1 := hB.at_ (i := 1) (v := .int .u64 b1) rfl
  have k2 := hB.at_ (i := 2) (v := .int .u64 c1) rfl
  have k3 := hB.at_ (i := 3) (v := .int .u64 d1) rfl
  have f0 := hB.frozen 0
  have f1 := hB.frozen 1
  have f2 := hB.frozen 2
  have f3 := hB.frozen 3
  have HB := Lib.hid hB
  have HO := Lib.hid ho
  clear hB ho
  refine wp_region_still_tail 13 (by kernel_rfl) (by kernel_rfl) ?_
  simp only [List.take_succ_cons, List.take_zero, List.drop_succ_cons, List.drop_zero]
  change wpStill _ _ w6.drew _ _ _
  repeat still_step
  still_call ((bits_Rot d1 21 w6.drew (by decide)).mono fun _ _ h => ⟨h.1, h.2.symm⟩)
  repeat still_step
  refine wpStill_nil ?_
  go_wp2_with fail
  have hB : Blk ((w6.setCell ⟨g, 3, none⟩ (.int .u64 (xorW (rotW d1 21) a3))).drew) g 194 _ := (HB.out.set_ 3 _).drew
  have ho : Only (fun k => k = g) w ((w6.setCell ⟨g, 3, none⟩ (.int .u64 (xorW (rotW d1 21) a3))).drew) := HO.out.here.drew
  clear HB HO k0 k1 k2 k3 f0 f1 f2 f3
  generalize (w6.setCell ⟨g, 3, none⟩ (.int .u64 (xorW (rotW d1 21) a3))).drew = w7 at hB ho ⊢
  generalize Hd2 : xorW (rotW d1 21) a3 = d2 at hB ⊢
  have Hd2 := Lib.hid Hd2
  have k0 := hB.at_ (i := 0) (v := .int .u64 a3) rfl
  have k1 := hB.at_ (i := 1) (v := .int .u64 b1) rfl
  have k2 := hB.at_ (i := 2) (v := .int .u64 c1) rfl
  have k3 := hB.at_ (i := 3) (v := .int .u64 d2) rfl
  have f0 := hB.frozen 0
  have f1 := hB.frozen 1
  have f2 := hB.frozen 2
  have f3 := hB.frozen 3
  have HB := Lib.hid hB
  have HO := Lib.hid ho
  clear hB ho
  refine wp_region_still_tail 11 (by kernel_rfl) (by kernel_rfl) ?_
  simp only [List.take_succ_cons, List.take_zero, List.drop_succ_cons, List.drop_zero]
  change wpStill _ _ w7.drew _ _ _
  repeat still_step
  refine wpStill_nil ?_
  go_wp2_with fail
  have hB : Blk ((w7.setCell ⟨g, 2, none⟩ (.int .u64 (addW c1 b1))).drew) g 194 _ := (HB.out.set_ 2 _).drew
  have ho : Only (fun k => k = g) w ((w7.setCell ⟨g, 2, none⟩ (.int .u64 (addW c1 b1))).drew) := HO.out.here.drew
  clear HB HO k0 k1 k2 k3 f0 f1 f2 f3
  generalize (w7.setCell ⟨g, 2, none⟩ (.int .u64 (addW c1 b1))).drew = w8 at hB ho ⊢
  generalize Hc2 : addW c1 b1 = c2 at hB ⊢
  have Hc2 := Lib.hid Hc2
  have k0 := hB.at_ (i := 0) (v := .int .u64 a3) rfl
  have k1 := hB.at_ (i := 1) (v := .int .u64 b1) rfl
  have k2 := hB.at_ (i := 2) (v := .int .u64 c2) rfl
  have k3 := hB.at_ (i := 3) (v := .int .u64 d2) rfl
  have f0 := hB.frozen 0
  have f1 := hB.frozen 1
  have f2 := hB.frozen 2
  have f3 := hB.frozen 3
  have HB := Lib.hid hB
  have HO := Lib.hid ho
  clear hB ho
  refine wp_region_still_tail 13 (by kernel_rfl) (by kernel_rfl) ?_
  simp only [List.take_succ_cons, List.take_zero, List.drop_succ_cons, List.drop_zero]
  change wpStill _ _ w8.drew _ _ _
  repeat still_step
  still_call ((bits_Rot b1 17 w8.drew (by decide)).mono fun _ _ h => ⟨h.1, h.2.symm⟩)
  repeat still_step
  refine wpStill_nil ?_
  go_wp2_with fail
  have hB : Blk ((w8.setCell ⟨g, 1, none⟩ (.int .u64 (xorW (rotW b1 17) c2))).drew) g 194 _ := (HB.out.set_ 1 _).drew
  have ho : Only (fun k => k = g) w ((w8.setCell ⟨g, 1, none⟩ (.int .u64 (xorW (rotW b1 17) c2))).drew) := HO.out.here.drew
  clear HB HO k0 k1 k2 k3 f0 f1 f2 f3
  generalize (w8.setCell ⟨g, 1, none⟩ (.int .u64 (xorW (rotW b1 17) c2))).drew = w9 at hB ho ⊢
  generalize Hb2 : xorW (rotW b1 17) c2 = b2 at hB ⊢
  have Hb2 := Lib.hid Hb2
  have k0 := hB.at_ (i := 0) (v := .int .u64 a3) rfl
  have k1 := hB.at_ (i := 1) (v := .int .u64 b2) rfl
  have k2 := hB.at_ (i := 2) (v := .int .u64 c2) rfl
  have k3 := hB.at_ (i := 3) (v := .int .u64 d2) rfl
  have f0 := hB.frozen 0
  have f1 := hB.frozen 1
  have f2 := hB.frozen 2
  have f3 := hB.frozen 3
  have HB := Lib.hid hB
  have HO := Lib.hid ho
  clear hB ho
  refine wp_region_still_tail 8 (by kernel_rfl) (by kernel_rfl) ?_
  simp only [List.take_succ_cons, List.take_zero, List.drop_succ_cons, List.drop_zero]
  change wpStill _ _ w9.drew _ _ _
  repeat still_step
  still_call ((bits_Rot c2 32 w9.drew (by decide)).mono fun _ _ h => ⟨h.1, h.2.symm⟩)
  repeat still_step
  refine wpStill_nil ?_
  go_wp2_with fail
  go_returns
  refine ⟨rfl, Blk.cast (HB.out.set_ 2 _) ?_, HO.out.here.drew⟩
  have ea1 := Ha1.out
  have eb1 := Hb1.out
  have ea2 := Ha2.out
  have ec1 := Hc1.out
  have ed1 := Hd1.out
  have ea3 := Ha3.out
  have ed2 := Hd2.out
  have ec2 := Hc2.out
  have eb2 := Hb2.out
  subst ea1 eb1 ea2 ec1 ed1 ea3 ed2 ec2 eb2
  rfl

set_option maxRecDepth 100000 in
theorem hash_take (g : Nat) (v : V4) (m : Int) (w : World) (hB : Blk w g 194 (v4C v)) :
    Calls Try.prog 143 #[.pointer (some ⟨g, 0, none⟩), .int .u64 m] w fun e w' => e = .returned (.tuple #[]) ∧ Blk w' g 194 (v4C (absorb v m)) ∧ Only (· = g) w w' := by
  obtain ⟨a, b, c, d⟩ := v
  have hxor : ∀ x y : Int, bits BinOp.xor IntKind.u64 x y = xorW x y := fun _ _ => rfl
  have k3 := hB.at_ (i := 3) (v := .int .u64 d) rfl
  have f3 := hB.frozen 3
  have HB := Lib.hid hB
  clear hB
  go_enter Try.func143, Try.ntmps143
  go_wp2_with fail
  refine wp_region_still_tail 8 (by kernel_rfl) (by kernel_rfl) ?_
  simp only [List.take_succ_cons, List.take_zero, List.drop_succ_cons, List.drop_zero]
  change wpStill _ _ w.drew _ _ _
  repeat still_step
  refine wpStill_nil ?_
  go_wp2_with fail
  have hB : Blk ((w.setCell ⟨g, 3, none⟩ (.int .u64 (xorW d m))).drew) g 194 (v4C ⟨a, b, c, xorW d m⟩) := (HB.out.set_ 3 _).drew
  have ho : Only (fun k => k = g) w ((w.setCell ⟨g, 3, none⟩ (.int .u64 (xorW d m))).drew) := (Only.refl _ _).here.drew
  clear HB k3 f3
  generalize (w.setCell ⟨g, 3, none⟩ (.int .u64 (xorW d m))).drew = w1 at hB ho ⊢
  refine (hash_round g _ w1 hB).mono ?_
  rintro e w2 ⟨rfl, hB2, ho2⟩
  have HO := Lib.hid (ho.trans ho2)
  clear hB ho ho2
  have H2 := Lib.hid hB2
  clear hB2
  go_wp2_with fail
  refine (hash_round g _ w2 H2.out).mono ?_
  rintro e w3 ⟨rfl, hB3, ho3⟩
  have hO3 := HO.out.trans ho3
  obtain ⟨u, hu⟩ : ∃ u, u = rnd (rnd ⟨a, b, c, xorW d m⟩) := ⟨_, rfl⟩
  obtain ⟨a2, b2, c2, d2⟩ := u
  have hv := hu.symm
  clear hu
  rw [hv] at hB3
  have HV := Lib.hid hv
  have k0 := hB3.at_ (i := 0) (v := .int .u64 a2) rfl
  have f0 := hB3.frozen 0
  have HB := Lib.hid hB3
  have HO3 := Lib.hid hO3
  clear hB3 ho3 hO3 hv H2 HO
  go_wp2_with fail
  refine wp_region_still_tail 8 (by kernel_rfl) (by kernel_rfl) ?_
  simp only [List.take_succ_cons, List.take_zero, List.drop_succ_cons, List.drop_zero]
  change wpStill _ _ w3.drew _ _ _
  repeat still_step
  refine wpStill_nil ?_
  go_wp2_with fail
  go_returns
  refine ⟨rfl, Blk.cast (HB.out.set_ 0 _) ?_, HO3.out.here.drew⟩
  unfold absorb
  rw [HV.out]
  rfl

/-- The number that bytes say, the lowest first. -/
def leN : List UInt8 → Nat
  | [] => 0
  | b :: t => b.toNat + 256 * leN t
theorem leN_lt : ∀ (l : List UInt8), leN l < 256 ^ l.length
  | [] => by simp [leN]
  | b :: t => by
    have h1 := leN_lt t
    have h2 := b.toNat_lt
    rw [leN, List.length_cons, Nat.pow_succ]
    omega
theorem leN_snoc : ∀ (l : List UInt8) (b : UInt8), leN (l ++ [b]) = leN l + b.toNat * 256 ^ l.length
  | [], b => by simp [leN]
  | c :: t, b => by
    rw [List.cons_append, leN, leN_snoc t b, leN, List.length_cons, Nat.pow_succ, Nat.mul_add]
    have h : 256 * (b.toNat * 256 ^ t.length) = b.toNat * (256 ^ t.length * 256) := by rw [Nat.mul_left_comm, Nat.mul_comm 256]
    omega
end Go.Proofs.Ytmbjinfeinhalaa
