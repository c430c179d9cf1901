/- Contracts of the reference's SipHash: its closure, which does n rounds. -/
import Derived.Test.YtmbjinfeinhalaaHashSip
import Derived.Deep.RegionHeld
import Derived.Deep.DeepCutAuto
namespace Go.Proofs.Ytmbjinfeinhalaa
open Go.RowKit
set_option linter.unusedVariables false

/-- Four variables, a block each, hold four words. -/
structure Held4 (w : World) (ga gb gc gd : Nat) (v : V4) : Prop where
  A : Blk w ga 56 [.int .u64 v.a]
  B : Blk w gb 56 [.int .u64 v.b]
  C : Blk w gc 56 [.int .u64 v.c]
  D : Blk w gd 56 [.int .u64 v.d]
structure Apart4 (ga gb gc gd : Nat) : Prop where
  h1 : ga ≠ gb
  h2 : ga ≠ gc
  h3 : ga ≠ gd
  h4 : gb ≠ gc
  h5 : gb ≠ gd
  h6 : gc ≠ gd
section
variable {w : World} {ga gb gc gd : Nat} {v : V4}
theorem Held4.setA (h : Held4 w ga gb gc gd v) (k : Apart4 ga gb gc gd) (x : Int) : Held4 (w.setCell ⟨ga, 0, none⟩ (.int .u64 x)) ga gb gc gd ⟨x, v.b, v.c, v.d⟩ :=
  ⟨h.A.set_ 0 _, h.B.far (Ne.symm k.h1) _, h.C.far (Ne.symm k.h2) _, h.D.far (Ne.symm k.h3) _⟩
theorem Held4.setB (h : Held4 w ga gb gc gd v) (k : Apart4 ga gb gc gd) (x : Int) : Held4 (w.setCell ⟨gb, 0, none⟩ (.int .u64 x)) ga gb gc gd ⟨v.a, x, v.c, v.d⟩ :=
  ⟨h.A.far k.h1 _, h.B.set_ 0 _, h.C.far (Ne.symm k.h4) _, h.D.far (Ne.symm k.h5) _⟩
theorem Held4.setC (h : Held4 w ga gb gc gd v) (k : Apart4 ga gb gc gd) (x : Int) : Held4 (w.setCell ⟨gc, 0, none⟩ (.int .u64 x)) ga gb gc gd ⟨v.a, v.b, x, v.d⟩ :=
  ⟨h.A.far k.h2 _, h.B.far k.h4 _, h.C.set_ 0 _, h.D.far (Ne.symm k.h6) _⟩
theorem Held4.setD (h : Held4 w ga gb gc gd v) (k : Apart4 ga gb gc gd) (x : Int) : Held4 (w.setCell ⟨gd, 0, none⟩ (.int .u64 x)) ga gb gc gd ⟨v.a, v.b, v.c, x⟩ :=
  ⟨h.A.far k.h3 _, h.B.far k.h5 _, h.C.far k.h6 _, h.D.set_ 0 _⟩
theorem Held4.drew (h : Held4 w ga gb gc gd v) : Held4 w.drew ga gb gc gd v := ⟨h.A, h.B, h.C, h.D⟩
theorem Held4.drewN (h : Held4 w ga gb gc gd v) (n : Nat) : Held4 (w.drewN n) ga gb gc gd v := ⟨h.A, h.B, h.C, h.D⟩
theorem Held4.cast {v' : V4} (h : Held4 w ga gb gc gd v) (e : v = v') : Held4 w ga gb gc gd v' := e ▸ h
end

theorem wrap_add (x y : Int) : IntKind.u64.wrap (x + y) = addW x y := rfl
theorem bits_xor (x y : Int) : bits BinOp.xor IntKind.u64 x y = xorW x y := rfl
attribute [local irreducible] addW xorW rotW

set_option maxRecDepth 100000 in
set_option maxHeartbeats 4000000 in
theorem ref_rounds (n ga gb gc gd : Nat) (v0 : V4) (w : World) (hn : n ≤ 1000) (hB : Held4 w ga gb gc gd v0) (HX : Apart4 ga gb gc gd) :
    Calls Try.prog 146 #[.int .i64 n, .pointer (some ⟨ga, 0, none⟩), .pointer (some ⟨gb, 0, none⟩), .pointer (some ⟨gc, 0, none⟩), .pointer (some ⟨gd, 0, none⟩)] w
      fun e w' => e = .returned (.tuple #[]) ∧ Held4 w' ga gb gc gd (rnds n v0) ∧ Only (fun k => k = ga ∨ k = gb ∨ k = gc ∨ k = gd) w w' := by
  have hadd := wrap_add
  have hxor := bits_xor
  have h1 := HX.h1
  have h2 := HX.h2
  have h3 := HX.h3
  have h4 := HX.h4
  have h5 := HX.h5
  have h6 := HX.h6
  have h1s := Ne.symm h1
  have h2s := Ne.symm h2
  have h3s := Ne.symm h3
  have h4s := Ne.symm h4
  have h5s := Ne.symm h5
  have h6s := Ne.symm h6
  have HB := Lib.hid hB
  clear hB
  go_enter Try.func146, Try.ntmps146
  go_wp2_with fail
  go_loopw [7] (fun t wr => ∃ (k : Nat) (v : V4), k ≤ n ∧ Hid (rnds k v0 = v) ∧ t = .int .i64 k ∧ Hid (Held4 wr ga gb gc gd v ∧ Only (fun k => k = ga ∨ k = gb ∨ k = gc ∨ k = gd) w wr)) (fun t _ => n - (intOf t).toNat)
  case atStart => exact ⟨0, v0, by omega, rfl, rfl, HB.out, Only.refl _ _⟩
  case round =>
    obtain ⟨k, ⟨a, b, c, d⟩, hk, HV, rfl, HW⟩ := hrel
    clear HB
    by_cases hlt : ¬ k < n
    · go_wp2_with fail
      go_returns
      obtain rfl : k = n := by omega
      exact ⟨rfl, HW.out.1.cast HV.out.symm, HW.out.2⟩
    have hlt : k < n := by omega
    obtain ⟨hB, ho⟩ := HW.out
    clear HW
    go_wp2_with fail
    have k0 : wr.cell? ⟨ga, 0, none⟩ = some (.int .u64 a) := hB.A.at_ (i := 0) rfl
    have k1 : wr.cell? ⟨gb, 0, none⟩ = some (.int .u64 b) := hB.B.at_ (i := 0) rfl
    have k2 : wr.cell? ⟨gc, 0, none⟩ = some (.int .u64 c) := hB.C.at_ (i := 0) rfl
    have k3 : wr.cell? ⟨gd, 0, none⟩ = some (.int .u64 d) := hB.D.at_ (i := 0) rfl
    have f0 : wr.frozen? ⟨ga, 0, none⟩ = false := hB.A.frozen 0
    have f1 : wr.frozen? ⟨gb, 0, none⟩ = false := hB.B.frozen 0
    have f2 : wr.frozen? ⟨gc, 0, none⟩ = false := hB.C.frozen 0
    have f3 : wr.frozen? ⟨gd, 0, none⟩ = false := hB.D.frozen 0
    have HB := Lib.hid hB
    have HO := Lib.hid ho
    clear hB ho
    go_region
    go_wp2_with fail
    obtain ⟨a1, Ga1⟩ : ∃ a1, addW a b = a1 := ⟨_, rfl⟩
    rw [Ga1]
    have Ha1 := Lib.hid Ga1
    clear Ga1
    obtain ⟨c1, Gc1⟩ : ∃ c1, addW c d = c1 := ⟨_, rfl⟩
    rw [Gc1]
    have Hc1 := Lib.hid Gc1
    clear Gc1
    have hB : Held4 (((wr.setCell ⟨ga, 0, none⟩ (.int .u64 a1)).setCell ⟨gc, 0, none⟩ (.int .u64 c1)).drew) ga gb gc gd ⟨a1, b, c1, d⟩ := ((HB.out.setA HX a1).setC HX c1).drew
    have ho : Only (fun k => k = ga ∨ k = gb ∨ k = gc ∨ k = gd) w (((wr.setCell ⟨ga, 0, none⟩ (.int .u64 a1)).setCell ⟨gc, 0, none⟩ (.int .u64 c1)).drew) := ((HO.out.setCell (p := ⟨ga, 0, none⟩) (.inl (.inl rfl)) _).setCell (p := ⟨gc, 0, none⟩) (.inl (.inr (.inr (.inl rfl)))) _).drew
    clear HB HO k0 k1 k2 k3 f0 f1 f2 f3
    generalize ((wr.setCell ⟨ga, 0, none⟩ (.int .u64 a1)).setCell ⟨gc, 0, none⟩ (.int .u64 c1)).drew = w1 at hB ho ⊢
    have k0 : w1.cell? ⟨ga, 0, none⟩ = some (.int .u64 a1) := hB.A.at_ (i := 0) rfl
    have k1 : w1.cell? ⟨gb, 0, none⟩ = some (.int .u64 b) := hB.B.at_ (i := 0) rfl
    have k2 : w1.cell? ⟨gc, 0, none⟩ = some (.int .u64 c1) := hB.C.at_ (i := 0) rfl
    have k3 : w1.cell? ⟨gd, 0, none⟩ = some (.int .u64 d) := hB.D.at_ (i := 0) rfl
    have f0 : w1.frozen? ⟨ga, 0, none⟩ = false := hB.A.frozen 0
    have f1 : w1.frozen? ⟨gb, 0, none⟩ = false := hB.B.frozen 0
    have f2 : w1.frozen? ⟨gc, 0, none⟩ = false := hB.C.frozen 0
    have f3 : w1.frozen? ⟨gd, 0, none⟩ = false := hB.D.frozen 0
    have HB := Lib.hid hB
    have HO := Lib.hid ho
    clear hB ho
    go_upto_region 3 with fail
    go_cut [] from 15 to 22 (fun wx => Hid (∃ nq : Nat, wx = (((w1.drewN nq).setCell ⟨gb, 0, none⟩ (.int .u64 (xorW (rotW b 13) a1))).setCell ⟨gd, 0, none⟩ (.int .u64 (xorW (rotW d 16) c1)))))
    case first =>
      refine wp_region_held_drew (S := fun w' => w'.cell? ⟨ga, 0, none⟩ = some (.int .u64 a1) ∧ w'.cell? ⟨gc, 0, none⟩ = some (.int .u64 c1)) (by kernel_rfl) ?_ (fun hHeld => ?_)
      · go_keep
      refine wpAnyH_take (i := 2) (v := ?v1) rfl (by kernel_rfl) (by kernel_rfl) (by kernel_rfl) (fun _ _ _ h => h) (Or.inl ⟨by rfl, ?hy1⟩) (by assumption) ?rest1
      case hy1 => (intro w hSw; (try dsimp only at hSw); go_simp; try with_reducible rfl)
      refine wpAnyH_take (i := 6) (v := ?v2) rfl (by kernel_rfl) (by kernel_rfl) (by kernel_rfl) (fun _ _ _ h => h) (Or.inl ⟨by rfl, ?hy2⟩) (by assumption) ?rest2
      case hy2 => (intro w hSw; (try dsimp only at hSw); go_simp; try with_reducible rfl)
      refine wpAnyH_ready (rs := [0, 4]) (by kernel_rfl) (by simp) ?_
      refine AllReadyH.cons rfl (fun K hK => ?_) ?_
      · go_simp
        refine hK.out _ _ ?_ (fun hHeld => ?_)
        · ((try dsimp only); go_keep)
        clear hK K
        refine wpAnyH_ready (rs := [1, 4]) (by kernel_rfl) (by simp) ?_
        refine AllReadyH.cons rfl (fun K hK => ?_) ?_
        · go_simp
          go_wp2_with (go_at_call 147; refine (ref_round _ _ _ (by decide)).mono ?_; rintro e w' ⟨rfl, m, rfl⟩)
          refine hK.out _ _ ?_ (fun hHeld => ?_)
          · ((try dsimp only); go_keep)
          clear hK K
          refine wpAnyH_take (i := 3) (v := ?v3) rfl (by kernel_rfl) (by kernel_rfl) (by kernel_rfl) (fun _ _ _ h => h) (Or.inl ⟨by rfl, ?hy3⟩) (by assumption) ?rest3
          case hy3 => (intro w hSw; (try dsimp only at hSw); go_simp; try with_reducible rfl)
          refine wpAnyH_ready (rs := [4]) (by kernel_rfl) (by simp) ?_
          refine AllReadyH.cons rfl (fun K hK => ?_) ?_
          · go_simp
            refine hK.out _ _ ?_ (fun hHeld => ?_)
            · ((try dsimp only); go_keep)
            clear hK K
            refine wpAnyH_ready (rs := [5]) (by kernel_rfl) (by simp) ?_
            refine AllReadyH.cons rfl (fun K hK => ?_) ?_
            · go_simp
              go_wp2_with (go_at_call 147; refine (ref_round _ _ _ (by decide)).mono ?_; rintro e w' ⟨rfl, m, rfl⟩)
              refine hK.out _ _ ?_ (fun hHeld => ?_)
              · ((try dsimp only); go_keep)
              clear hK K
              refine wpAnyH_take (i := 7) (v := ?v4) rfl (by kernel_rfl) (by kernel_rfl) (by kernel_rfl) (fun _ _ _ h => h) (Or.inl ⟨by rfl, ?hy4⟩) (by assumption) ?rest4
              case hy4 => (intro w hSw; (try dsimp only at hSw); go_simp; try with_reducible rfl)
              refine wpAnyH_ready (rs := [8]) (by kernel_rfl) (by simp) ?_
              refine AllReadyH.cons rfl (fun K hK => ?_) ?_
              · go_simp
                refine hK.out _ _ ?_ (fun hHeld => ?_)
                · ((try dsimp only); go_keep)
                clear hK K
                refine wpAnyH_ready (rs := [9]) (by kernel_rfl) (by simp) ?_
                refine AllReadyH.cons rfl (fun K hK => ?_) ?_
                · go_simp
                  refine hK.out _ _ ?_ (fun hHeld => ?_)
                  · ((try dsimp only); go_keep)
                  clear hK K
                  refine wpAnyH_done (by kernel_rfl) ?_ _
                  go_wp2_with fail
                  go_meet
                  exact ⟨_, rfl⟩
                exact AllReadyH.nil
              exact AllReadyH.nil
            exact AllReadyH.nil
          exact AllReadyH.nil
        refine AllReadyH.cons rfl (fun K hK => ?_) ?_
        · go_simp
          refine hK.out _ _ ?_ (fun hHeld => ?_)
          · ((try dsimp only); go_keep)
          clear hK K
          refine wpAnyH_ready (rs := [1]) (by kernel_rfl) (by simp) ?_
          refine AllReadyH.cons rfl (fun K hK => ?_) ?_
          · go_simp
            go_wp2_with (go_at_call 147; refine (ref_round _ _ _ (by decide)).mono ?_; rintro e w' ⟨rfl, m, rfl⟩)
            refine hK.out _ _ ?_ (fun hHeld => ?_)
            · ((try dsimp only); go_keep)
            clear hK K
            refine wpAnyH_take (i := 3) (v := ?v5) rfl (by kernel_rfl) (by kernel_rfl) (by kernel_rfl) (fun _ _ _ h => h) (Or.inl ⟨by rfl, ?hy5⟩) (by assumption) ?rest5
            case hy5 => (intro w hSw; (try dsimp only at hSw); go_simp; try with_reducible rfl)
            refine wpAnyH_ready (rs := [5]) (by kernel_rfl) (by simp) ?_
            refine AllReadyH.cons rfl (fun K hK => ?_) ?_
            · go_simp
              go_wp2_with (go_at_call 147; refine (ref_round _ _ _ (by decide)).mono ?_; rintro e w' ⟨rfl, m, rfl⟩)
              refine hK.out _ _ ?_ (fun hHeld => ?_)
              · ((try dsimp only); go_keep)
              clear hK K
              refine wpAnyH_take (i := 7) (v := ?v6) rfl (by kernel_rfl) (by kernel_rfl) (by kernel_rfl) (fun _ _ _ h => h) (Or.inl ⟨by rfl, ?hy6⟩) (by assumption) ?rest6
              case hy6 => (intro w hSw; (try dsimp only at hSw); go_simp; try with_reducible rfl)
              refine wpAnyH_ready (rs := [8]) (by kernel_rfl) (by simp) ?_
              refine AllReadyH.cons rfl (fun K hK => ?_) ?_
              · go_simp
                refine hK.out _ _ ?_ (fun hHeld => ?_)
                · ((try dsimp only); go_keep)
                clear hK K
                refine wpAnyH_ready (rs := [9]) (by kernel_rfl) (by simp) ?_
                refine AllReadyH.cons rfl (fun K hK => ?_) ?_
                · go_simp
                  refine hK.out _ _ ?_ (fun hHeld => ?_)
                  · ((try dsimp only); go_keep)
                  clear hK K
                  refine wpAnyH_done (by kernel_rfl) ?_ _
                  go_wp2_with fail
                  go_meet
                  exact ⟨_, rfl⟩
                exact AllReadyH.nil
              exact AllReadyH.nil
            exact AllReadyH.nil
          exact AllReadyH.nil
        exact AllReadyH.nil
      refine AllReadyH.cons rfl (fun K hK => ?_) ?_
      · go_simp
        refine hK.out _ _ ?_ (fun hHeld => ?_)
        · ((try dsimp only); go_keep)
        clear hK K
        refine wpAnyH_ready (rs := [0]) (by kernel_rfl) (by simp) ?_
        refine AllReadyH.cons rfl (fun K hK => ?_) ?_
        · go_simp
          refine hK.out _ _ ?_ (fun hHeld => ?_)
          · ((try dsimp only); go_keep)
          clear hK K
          refine wpAnyH_ready (rs := [1]) (by kernel_rfl) (by simp) ?_
          refine AllReadyH.cons rfl (fun K hK => ?_) ?_
          · go_simp
            go_wp2_with (go_at_call 147; refine (ref_round _ _ _ (by decide)).mono ?_; rintro e w' ⟨rfl, m, rfl⟩)
            refine hK.out _ _ ?_ (fun hHeld => ?_)
            · ((try dsimp only); go_keep)
            clear hK K
            refine wpAnyH_take (i := 3) (v := ?v7) rfl (by kernel_rfl) (by kernel_rfl) (by kernel_rfl) (fun _ _ _ h => h) (Or.inl ⟨by rfl, ?hy7⟩) (by assumption) ?rest7
            case hy7 => (intro w hSw; (try dsimp only at hSw); go_simp; try with_reducible rfl)
            refine wpAnyH_ready (rs := [5]) (by kernel_rfl) (by simp) ?_
            refine AllReadyH.cons rfl (fun K hK => ?_) ?_
            · go_simp
              go_wp2_with (go_at_call 147; refine (ref_round _ _ _ (by decide)).mono ?_; rintro e w' ⟨rfl, m, rfl⟩)
              refine hK.out _ _ ?_ (fun hHeld => ?_)
              · ((try dsimp only); go_keep)
              clear hK K
              refine wpAnyH_take (i := 7) (v := ?v8) rfl (by kernel_rfl) (by kernel_rfl) (by kernel_rfl) (fun _ _ _ h => h) (Or.inl ⟨by rfl, ?hy8⟩) (by assumption) ?rest8
              case hy8 => (intro w hSw; (try dsimp only at hSw); go_simp; try with_reducible rfl)
              refine wpAnyH_ready (rs := [8]) (by kernel_rfl) (by simp) ?_
              refine AllReadyH.cons rfl (fun K hK => ?_) ?_
              · go_simp
                refine hK.out _ _ ?_ (fun hHeld => ?_)
                · ((try dsimp only); go_keep)
                clear hK K
                refine wpAnyH_ready (rs := [9]) (by kernel_rfl) (by simp) ?_
                refine AllReadyH.cons rfl (fun K hK => ?_) ?_
                · go_simp
                  refine hK.out _ _ ?_ (fun hHeld => ?_)
                  · ((try dsimp only); go_keep)
                  clear hK K
                  refine wpAnyH_done (by kernel_rfl) ?_ _
                  go_wp2_with fail
                  go_meet
                  exact ⟨_, rfl⟩
                exact AllReadyH.nil
              exact AllReadyH.nil
            exact AllReadyH.nil
          exact AllReadyH.nil
        exact AllReadyH.nil
      exact AllReadyH.nil
    obtain ⟨nq1, rfl⟩ := hcut.out
    go_wp2_with fail
    obtain ⟨b1, Gb1⟩ : ∃ b1, xorW (rotW b 13) a1 = b1 := ⟨_, rfl⟩
    rw [Gb1]
    have Hb1 := Lib.hid Gb1
    clear Gb1
    obtain ⟨d1, Gd1⟩ : ∃ d1, xorW (rotW d 16) c1 = d1 := ⟨_, rfl⟩
    rw [Gd1]
    have Hd1 := Lib.hid Gd1
    clear Gd1
    have hB : Held4 ((((w1.drewN nq1).setCell ⟨gb, 0, none⟩ (.int .u64 b1)).setCell ⟨gd, 0, none⟩ (.int .u64 d1))) ga gb gc gd ⟨a1, b1, c1, d1⟩ := (((HB.out.drewN nq1).setB HX b1).setD HX d1)
    have ho : Only (fun k => k = ga ∨ k = gb ∨ k = gc ∨ k = gd) w ((((w1.drewN nq1).setCell ⟨gb, 0, none⟩ (.int .u64 b1)).setCell ⟨gd, 0, none⟩ (.int .u64 d1))) := (((HO.out.drewN nq1).setCell (p := ⟨gb, 0, none⟩) (.inl (.inr (.inl rfl))) _).setCell (p := ⟨gd, 0, none⟩) (.inl (.inr (.inr (.inr rfl)))) _)
    clear HB HO k0 k1 k2 k3 f0 f1 f2 f3
    generalize (((w1.drewN nq1).setCell ⟨gb, 0, none⟩ (.int .u64 b1)).setCell ⟨gd, 0, none⟩ (.int .u64 d1)) = w2 at hB ho ⊢
    have k0 : w2.cell? ⟨ga, 0, none⟩ = some (.int .u64 a1) := hB.A.at_ (i := 0) rfl
    have k1 : w2.cell? ⟨gb, 0, none⟩ = some (.int .u64 b1) := hB.B.at_ (i := 0) rfl
    have k2 : w2.cell? ⟨gc, 0, none⟩ = some (.int .u64 c1) := hB.C.at_ (i := 0) rfl
    have k3 : w2.cell? ⟨gd, 0, none⟩ = some (.int .u64 d1) := hB.D.at_ (i := 0) rfl
    have f0 : w2.frozen? ⟨ga, 0, none⟩ = false := hB.A.frozen 0
    have f1 : w2.frozen? ⟨gb, 0, none⟩ = false := hB.B.frozen 0
    have f2 : w2.frozen? ⟨gc, 0, none⟩ = false := hB.C.frozen 0
    have f3 : w2.frozen? ⟨gd, 0, none⟩ = false := hB.D.frozen 0
    have HB := Lib.hid hB
    have HO := Lib.hid ho
    clear hB ho
    go_at_call 147
    refine (ref_round a1 32 _ (by decide)).mono ?_
    rintro e _ ⟨rfl, nq2, rfl⟩
    go_wp2_with fail
    obtain ⟨a2, Ga2⟩ : ∃ a2, rotW a1 32 = a2 := ⟨_, rfl⟩
    rw [Ga2]
    have Ha2 := Lib.hid Ga2
    clear Ga2
    have hB : Held4 (((w2.drewN nq2).setCell ⟨ga, 0, none⟩ (.int .u64 a2))) ga gb gc gd ⟨a2, b1, c1, d1⟩ := ((HB.out.drewN nq2).setA HX a2)
    have ho : Only (fun k => k = ga ∨ k = gb ∨ k = gc ∨ k = gd) w (((w2.drewN nq2).setCell ⟨ga, 0, none⟩ (.int .u64 a2))) := ((HO.out.drewN nq2).setCell (p := ⟨ga, 0, none⟩) (.inl (.inl rfl)) _)
    clear HB HO k0 k1 k2 k3 f0 f1 f2 f3
    generalize ((w2.drewN nq2).setCell ⟨ga, 0, none⟩ (.int .u64 a2)) = w3 at hB ho ⊢
    have k0 : w3.cell? ⟨ga, 0, none⟩ = some (.int .u64 a2) := hB.A.at_ (i := 0) rfl
    have k1 : w3.cell? ⟨gb, 0, none⟩ = some (.int .u64 b1) := hB.B.at_ (i := 0) rfl
    have k2 : w3.cell? ⟨gc, 0, none⟩ = some (.int .u64 c1) := hB.C.at_ (i := 0) rfl
    have k3 : w3.cell? ⟨gd, 0, none⟩ = some (.int .u64 d1) := hB.D.at_ (i := 0) rfl
    have f0 : w3.frozen? ⟨ga, 0, none⟩ = false := hB.A.frozen 0
    have f1 : w3.frozen? ⟨gb, 0, none⟩ = false := hB.B.frozen 0
    have f2 : w3.frozen? ⟨gc, 0, none⟩ = false := hB.C.frozen 0
    have f3 : w3.frozen? ⟨gd, 0, none⟩ = false := hB.D.frozen 0
    have HB := Lib.hid hB
    have HO := Lib.hid ho
    clear hB ho
    go_region
    go_wp2_with fail
    obtain ⟨a3, Ga3⟩ : ∃ a3, addW a2 d1 = a3 := ⟨_, rfl⟩
    rw [Ga3]
    have Ha3 := Lib.hid Ga3
    clear Ga3
    obtain ⟨c2, Gc2⟩ : ∃ c2, addW c1 b1 = c2 := ⟨_, rfl⟩
    rw [Gc2]
    have Hc2 := Lib.hid Gc2
    clear Gc2
    have hB : Held4 (((w3.setCell ⟨ga, 0, none⟩ (.int .u64 a3)).setCell ⟨gc, 0, none⟩ (.int .u64 c2)).drew) ga gb gc gd ⟨a3, b1, c2, d1⟩ := ((HB.out.setA HX a3).setC HX c2).drew
    have ho : Only (fun k => k = ga ∨ k = gb ∨ k = gc ∨ k = gd) w (((w3.setCell ⟨ga, 0, none⟩ (.int .u64 a3)).setCell ⟨gc, 0, none⟩ (.int .u64 c2)).drew) := ((HO.out.setCell (p := ⟨ga, 0, none⟩) (.inl (.inl rfl)) _).setCell (p := ⟨gc, 0, none⟩) (.inl (.inr (.inr (.inl rfl)))) _).drew
    clear HB HO k0 k1 k2 k3 f0 f1 f2 f3
    generalize ((w3.setCell ⟨ga, 0, none⟩ (.int .u64 a3)).setCell ⟨gc, 0, none⟩ (.int .u64 c2)).drew = w4 at hB ho ⊢
    have k0 : w4.cell? ⟨ga, 0, none⟩ = some (.int .u64 a3) := hB.A.at_ (i := 0) rfl
    have k1 : w4.cell? ⟨gb, 0, none⟩ = some (.int .u64 b1) := hB.B.at_ (i := 0) rfl
    have k2 : w4.cell? ⟨gc, 0, none⟩ = some (.int .u64 c2) := hB.C.at_ (i := 0) rfl
    have k3 : w4.cell? ⟨gd, 0, none⟩ = some (.int .u64 d1) := hB.D.at_ (i := 0) rfl
    have f0 : w4.frozen? ⟨ga, 0, none⟩ = false := hB.A.frozen 0
    have f1 : w4.frozen? ⟨gb, 0, none⟩ = false := hB.B.frozen 0
    have f2 : w4.frozen? ⟨gc, 0, none⟩ = false := hB.C.frozen 0
    have f3 : w4.frozen? ⟨gd, 0, none⟩ = false := hB.D.frozen 0
    have HB := Lib.hid hB
    have HO := Lib.hid ho
    clear hB ho
    go_upto_region 6 with fail
    go_cut [] from 31 to 38 (fun wx => Hid (∃ nq : Nat, wx = (((w4.drewN nq).setCell ⟨gd, 0, none⟩ (.int .u64 (xorW (rotW d1 21) a3))).setCell ⟨gb, 0, none⟩ (.int .u64 (xorW (rotW b1 17) c2)))))
    case first =>
      refine wp_region_held_drew (S := fun w' => w'.cell? ⟨ga, 0, none⟩ = some (.int .u64 a3) ∧ w'.cell? ⟨gc, 0, none⟩ = some (.int .u64 c2)) (by kernel_rfl) ?_ (fun hHeld => ?_)
      · go_keep
      refine wpAnyH_take (i := 2) (v := ?v9) rfl (by kernel_rfl) (by kernel_rfl) (by kernel_rfl) (fun _ _ _ h => h) (Or.inl ⟨by rfl, ?hy9⟩) (by assumption) ?rest9
      case hy9 => (intro w hSw; (try dsimp only at hSw); go_simp; try with_reducible rfl)
      refine wpAnyH_take (i := 6) (v := ?v10) rfl (by kernel_rfl) (by kernel_rfl) (by kernel_rfl) (fun _ _ _ h => h) (Or.inl ⟨by rfl, ?hy10⟩) (by assumption) ?rest10
      case hy10 => (intro w hSw; (try dsimp only at hSw); go_simp; try with_reducible rfl)
      refine wpAnyH_ready (rs := [0, 4]) (by kernel_rfl) (by simp) ?_
      refine AllReadyH.cons rfl (fun K hK => ?_) ?_
      · go_simp
        refine hK.out _ _ ?_ (fun hHeld => ?_)
        · ((try dsimp only); go_keep)
        clear hK K
        refine wpAnyH_ready (rs := [1, 4]) (by kernel_rfl) (by simp) ?_
        refine AllReadyH.cons rfl (fun K hK => ?_) ?_
        · go_simp
          go_wp2_with (go_at_call 147; refine (ref_round _ _ _ (by decide)).mono ?_; rintro e w' ⟨rfl, m, rfl⟩)
          refine hK.out _ _ ?_ (fun hHeld => ?_)
          · ((try dsimp only); go_keep)
          clear hK K
          refine wpAnyH_take (i := 3) (v := ?v11) rfl (by kernel_rfl) (by kernel_rfl) (by kernel_rfl) (fun _ _ _ h => h) (Or.inl ⟨by rfl, ?hy11⟩) (by assumption) ?rest11
          case hy11 => (intro w hSw; (try dsimp only at hSw); go_simp; try with_reducible rfl)
          refine wpAnyH_ready (rs := [4]) (by kernel_rfl) (by simp) ?_
          refine AllReadyH.cons rfl (fun K hK => ?_) ?_
          · go_simp
            refine hK.out _ _ ?_ (fun hHeld => ?_)
            · ((try dsimp only); go_keep)
            clear hK K
            refine wpAnyH_ready (rs := [5]) (by kernel_rfl) (by simp) ?_
            refine AllReadyH.cons rfl (fun K hK => ?_) ?_
            · go_simp
              go_wp2_with (go_at_call 147; refine (ref_round _ _ _ (by decide)).mono ?_; rintro e w' ⟨rfl, m, rfl⟩)
              refine hK.out _ _ ?_ (fun hHeld => ?_)
              · ((try dsimp only); go_keep)
              clear hK K
              refine wpAnyH_take (i := 7) (v := ?v12) rfl (by kernel_rfl) (by kernel_rfl) (by kernel_rfl) (fun _ _ _ h => h) (Or.inl ⟨by rfl, ?hy12⟩) (by assumption) ?rest12
              case hy12 => (intro w hSw; (try dsimp only at hSw); go_simp; try with_reducible rfl)
              refine wpAnyH_ready (rs := [8]) (by kernel_rfl) (by simp) ?_
              refine AllReadyH.cons rfl (fun K hK => ?_) ?_
              · go_simp
                refine hK.out _ _ ?_ (fun hHeld => ?_)
                · ((try dsimp only); go_keep)
                clear hK K
                refine wpAnyH_ready (rs := [9]) (by kernel_rfl) (by simp) ?_
                refine AllReadyH.cons rfl (fun K hK => ?_) ?_
                · go_simp
                  refine hK.out _ _ ?_ (fun hHeld => ?_)
                  · ((try dsimp only); go_keep)
                  clear hK K
                  refine wpAnyH_done (by kernel_rfl) ?_ _
                  go_wp2_with fail
                  go_meet
                  exact ⟨_, rfl⟩
                exact AllReadyH.nil
              exact AllReadyH.nil
            exact AllReadyH.nil
          exact AllReadyH.nil
        refine AllReadyH.cons rfl (fun K hK => ?_) ?_
        · go_simp
          refine hK.out _ _ ?_ (fun hHeld => ?_)
          · ((try dsimp only); go_keep)
          clear hK K
          refine wpAnyH_ready (rs := [1]) (by kernel_rfl) (by simp) ?_
          refine AllReadyH.cons rfl (fun K hK => ?_) ?_
          · go_simp
            go_wp2_with (go_at_call 147; refine (ref_round _ _ _ (by decide)).mono ?_; rintro e w' ⟨rfl, m, rfl⟩)
            refine hK.out _ _ ?_ (fun hHeld => ?_)
            · ((try dsimp only); go_keep)
            clear hK K
            refine wpAnyH_take (i := 3) (v := ?v13) rfl (by kernel_rfl) (by kernel_rfl) (by kernel_rfl) (fun _ _ _ h => h) (Or.inl ⟨by rfl, ?hy13⟩) (by assumption) ?rest13
            case hy13 => (intro w hSw; (try dsimp only at hSw); go_simp; try with_reducible rfl)
            refine wpAnyH_ready (rs := [5]) (by kernel_rfl) (by simp) ?_
            refine AllReadyH.cons rfl (fun K hK => ?_) ?_
            · go_simp
              go_wp2_with (go_at_call 147; refine (ref_round _ _ _ (by decide)).mono ?_; rintro e w' ⟨rfl, m, rfl⟩)
              refine hK.out _ _ ?_ (fun hHeld => ?_)
              · ((try dsimp only); go_keep)
              clear hK K
              refine wpAnyH_take (i := 7) (v := ?v14) rfl (by kernel_rfl) (by kernel_rfl) (by kernel_rfl) (fun _ _ _ h => h) (Or.inl ⟨by rfl, ?hy14⟩) (by assumption) ?rest14
              case hy14 => (intro w hSw; (try dsimp only at hSw); go_simp; try with_reducible rfl)
              refine wpAnyH_ready (rs := [8]) (by kernel_rfl) (by simp) ?_
              refine AllReadyH.cons rfl (fun K hK => ?_) ?_
              · go_simp
                refine hK.out _ _ ?_ (fun hHeld => ?_)
                · ((try dsimp only); go_keep)
                clear hK K
                refine wpAnyH_ready (rs := [9]) (by kernel_rfl) (by simp) ?_
                refine AllReadyH.cons rfl (fun K hK => ?_) ?_
                · go_simp
                  refine hK.out _ _ ?_ (fun hHeld => ?_)
                  · ((try dsimp only); go_keep)
                  clear hK K
                  refine wpAnyH_done (by kernel_rfl) ?_ _
                  go_wp2_with fail
                  go_meet
                  exact ⟨_, rfl⟩
                exact AllReadyH.nil
              exact AllReadyH.nil
            exact AllReadyH.nil
          exact AllReadyH.nil
        exact AllReadyH.nil
      refine AllReadyH.cons rfl (fun K hK => ?_) ?_
      · go_simp
        refine hK.out _ _ ?_ (fun hHeld => ?_)
        · ((try dsimp only); go_keep)
        clear hK K
        refine wpAnyH_ready (rs := [0]) (by kernel_rfl) (by simp) ?_
        refine AllReadyH.cons rfl (fun K hK => ?_) ?_
        · go_simp
          refine hK.out _ _ ?_ (fun hHeld => ?_)
          · ((try dsimp only); go_keep)
          clear hK K
          refine wpAnyH_ready (rs := [1]) (by kernel_rfl) (by simp) ?_
          refine AllReadyH.cons rfl (fun K hK => ?_) ?_
          · go_simp
            go_wp2_with (go_at_call 147; refine (ref_round _ _ _ (by decide)).mono ?_; rintro e w' ⟨rfl, m, rfl⟩)
            refine hK.out _ _ ?_ (fun hHeld => ?_)
            · ((try dsimp only); go_keep)
            clear hK K
            refine wpAnyH_take (i := 3) (v := ?v15) rfl (by kernel_rfl) (by kernel_rfl) (by kernel_rfl) (fun _ _ _ h => h) (Or.inl ⟨by rfl, ?hy15⟩) (by assumption) ?rest15
            case hy15 => (intro w hSw; (try dsimp only at hSw); go_simp; try with_reducible rfl)
            refine wpAnyH_ready (rs := [5]) (by kernel_rfl) (by simp) ?_
            refine AllReadyH.cons rfl (fun K hK => ?_) ?_
            · go_simp
              go_wp2_with (go_at_call 147; refine (ref_round _ _ _ (by decide)).mono ?_; rintro e w' ⟨rfl, m, rfl⟩)
              refine hK.out _ _ ?_ (fun hHeld => ?_)
              · ((try dsimp only); go_keep)
              clear hK K
              refine wpAnyH_take (i := 7) (v := ?v16) rfl (by kernel_rfl) (by kernel_rfl) (by kernel_rfl) (fun _ _ _ h => h) (Or.inl ⟨by rfl, ?hy16⟩) (by assumption) ?rest16
              case hy16 => (intro w hSw; (try dsimp only at hSw); go_simp; try with_reducible rfl)
              refine wpAnyH_ready (rs := [8]) (by kernel_rfl) (by simp) ?_
              refine AllReadyH.cons rfl (fun K hK => ?_) ?_
              · go_simp
                refine hK.out _ _ ?_ (fun hHeld => ?_)
                · ((try dsimp only); go_keep)
                clear hK K
                refine wpAnyH_ready (rs := [9]) (by kernel_rfl) (by simp) ?_
                refine AllReadyH.cons rfl (fun K hK => ?_) ?_
                · go_simp
                  refine hK.out _ _ ?_ (fun hHeld => ?_)
                  · ((try dsimp only); go_keep)
                  clear hK K
                  refine wpAnyH_done (by kernel_rfl) ?_ _
                  go_wp2_with fail
                  go_meet
                  exact ⟨_, rfl⟩
                exact AllReadyH.nil
              exact AllReadyH.nil
            exact AllReadyH.nil
          exact AllReadyH.nil
        exact AllReadyH.nil
      exact AllReadyH.nil
    obtain ⟨nq4, rfl⟩ := hcut.out
    go_wp2_with fail
    obtain ⟨d2, Gd2⟩ : ∃ d2, xorW (rotW d1 21) a3 = d2 := ⟨_, rfl⟩
    rw [Gd2]
    have Hd2 := Lib.hid Gd2
    clear Gd2
    obtain ⟨b2, Gb2⟩ : ∃ b2, xorW (rotW b1 17) c2 = b2 := ⟨_, rfl⟩
    rw [Gb2]
    have Hb2 := Lib.hid Gb2
    clear Gb2
    have hB : Held4 ((((w4.drewN nq4).setCell ⟨gd, 0, none⟩ (.int .u64 d2)).setCell ⟨gb, 0, none⟩ (.int .u64 b2))) ga gb gc gd ⟨a3, b2, c2, d2⟩ := (((HB.out.drewN nq4).setD HX d2).setB HX b2)
    have ho : Only (fun k => k = ga ∨ k = gb ∨ k = gc ∨ k = gd) w ((((w4.drewN nq4).setCell ⟨gd, 0, none⟩ (.int .u64 d2)).setCell ⟨gb, 0, none⟩ (.int .u64 b2))) := (((HO.out.drewN nq4).setCell (p := ⟨gd, 0, none⟩) (.inl (.inr (.inr (.inr rfl)))) _).setCell (p := ⟨gb, 0, none⟩) (.inl (.inr (.inl rfl))) _)
    clear HB HO k0 k1 k2 k3 f0 f1 f2 f3
    generalize (((w4.drewN nq4).setCell ⟨gd, 0, none⟩ (.int .u64 d2)).setCell ⟨gb, 0, none⟩ (.int .u64 b2)) = w5 at hB ho ⊢
    have k0 : w5.cell? ⟨ga, 0, none⟩ = some (.int .u64 a3) := hB.A.at_ (i := 0) rfl
    have k1 : w5.cell? ⟨gb, 0, none⟩ = some (.int .u64 b2) := hB.B.at_ (i := 0) rfl
    have k2 : w5.cell? ⟨gc, 0, none⟩ = some (.int .u64 c2) := hB.C.at_ (i := 0) rfl
    have k3 : w5.cell? ⟨gd, 0, none⟩ = some (.int .u64 d2) := hB.D.at_ (i := 0) rfl
    have f0 : w5.frozen? ⟨ga, 0, none⟩ = false := hB.A.frozen 0
    have f1 : w5.frozen? ⟨gb, 0, none⟩ = false := hB.B.frozen 0
    have f2 : w5.frozen? ⟨gc, 0, none⟩ = false := hB.C.frozen 0
    have f3 : w5.frozen? ⟨gd, 0, none⟩ = false := hB.D.frozen 0
    have HB := Lib.hid hB
    have HO := Lib.hid ho
    clear hB ho
    go_at_call 147
    refine (ref_round c2 32 _ (by decide)).mono ?_
    rintro e _ ⟨rfl, nq5, rfl⟩
    go_wp2_with fail
    obtain ⟨c3, Gc3⟩ : ∃ c3, rotW c2 32 = c3 := ⟨_, rfl⟩
    rw [Gc3]
    have Hc3 := Lib.hid Gc3
    clear Gc3
    have hB : Held4 (((w5.drewN nq5).setCell ⟨gc, 0, none⟩ (.int .u64 c3))) ga gb gc gd ⟨a3, b2, c3, d2⟩ := ((HB.out.drewN nq5).setC HX c3)
    have ho : Only (fun k => k = ga ∨ k = gb ∨ k = gc ∨ k = gd) w (((w5.drewN nq5).setCell ⟨gc, 0, none⟩ (.int .u64 c3))) := ((HO.out.drewN nq5).setCell (p := ⟨gc, 0, none⟩) (.inl (.inr (.inr (.inl rfl)))) _)
    clear HB HO k0 k1 k2 k3 f0 f1 f2 f3
    generalize ((w5.drewN nq5).setCell ⟨gc, 0, none⟩ (.int .u64 c3)) = w6 at hB ho ⊢
    go_roundw
    case rel =>
      refine ⟨k + 1, rnd ⟨a, b, c, d⟩, by omega, ?_, by go_num, hB.cast ?_, ho⟩
      · show rnd (rnds k v0) = _
        rw [HV.out]
      · have e1 := Ha1.out
        have e2 := Hc1.out
        have e3 := Hb1.out
        have e4 := Hd1.out
        have e5 := Ha2.out
        have e6 := Ha3.out
        have e7 := Hc2.out
        have e8 := Hd2.out
        have e9 := Hb2.out
        have e10 := Hc3.out
        simp only [rnd, e1, e2, e3, e4, e5, e6, e7, e8, e9, e10]
    case measure => simp only [intOf]; omega
end Go.Proofs.Ytmbjinfeinhalaa
