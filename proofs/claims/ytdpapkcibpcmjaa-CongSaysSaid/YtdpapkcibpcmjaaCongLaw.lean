/- The walk of the law CongSays. -/
import Derived.Test.YtdpapkcibpcmjaaCongWalks
import Derived.Deep.DrawnRows
namespace Go.Proofs.Ytdpapkcibpcmjaa
open Go.RowKit
set_option linter.unusedVariables false

theorem cong_New (mss : Int) (w : World) (h : 8 ≤ mss) (h' : mss ≤ 1000) : Calls Try.prog 40 #[.int .i64 mss] w fun e w' => e = .returned (.tuple #[.pointer (some ⟨w.heap.size, 0, none⟩), .int .i64 0]) ∧ w.alloc (.cells (winC mss (2 * mss) 65535).toArray 107) = w' := by
  go_enter Try.func40, Try.ntmps40
  go_wp2
  go_returns
  exact ⟨rfl, rfl⟩
theorem cong_New_no (mss : Int) (w : World) (h : mss < 8 ∨ 1000 < mss) : Calls Try.prog 40 #[.int .i64 mss] w fun e w' => e = .returned (.tuple #[.pointer none, .int .i64 1]) ∧ w = w' := by
  rcases h with h | h
  all_goals
    go_enter Try.func40, Try.ntmps40
    go_wp2
    go_returns
    exact ⟨rfl, rfl⟩
theorem ref_CwndNew (mss : Int) (w : World) (h : 8 ≤ mss) (h' : mss ≤ 1000) : Calls Try.prog 41 #[.int .i64 mss] w fun e w' => e = .returned (.tuple #[.pointer (some ⟨w.heap.size, 0, none⟩), .int .i64 0]) ∧ w.alloc (.cells (winC mss (2 * mss) 65535).toArray 72) = w' := by
  go_enter Try.func41, Try.ntmps41
  go_wp2
  go_returns
  exact ⟨rfl, rfl⟩
theorem ref_CwndNew_no (mss : Int) (w : World) (h : mss < 8 ∨ 1000 < mss) : Calls Try.prog 41 #[.int .i64 mss] w fun e w' => e = .returned (.tuple #[.pointer none, .int .i64 1]) ∧ w = w' := by
  rcases h with h | h
  all_goals
    go_enter Try.func41, Try.ntmps41
    go_wp2
    go_returns
    exact ⟨rfl, rfl⟩
theorem cong_Size (g : Nat) (size : Int) (w : World) (h : w.cell? ⟨g, 1, none⟩ = some (.int .i64 size)) : Calls Try.prog 48 #[.pointer (some ⟨g, 0, none⟩)] w fun e w' => e = .returned (.int .i64 size) ∧ w' = w := by
  go_enter Try.func48, Try.ntmps48
  go_wp2
  go_ret
  exact ⟨rfl, rfl⟩
theorem cong_Slow (g : Nat) (size : Int) (w : World) (h : w.cell? ⟨g, 2, none⟩ = some (.int .i64 size)) : Calls Try.prog 49 #[.pointer (some ⟨g, 0, none⟩)] w fun e w' => e = .returned (.int .i64 size) ∧ w' = w := by
  go_enter Try.func49, Try.ntmps49
  go_wp2
  go_ret
  exact ⟨rfl, rfl⟩

/-- Both windows hold the same. -/
def CongBoth (g1 g2 : Nat) (w : World) : Prop := ∃ (mss size slow : Int), Blk w g1 107 (winC mss size slow) ∧ Blk w g2 72 (winC mss size slow) ∧
  8 ≤ mss ∧ mss ≤ 1000 ∧ 8 ≤ size ∧ size ≤ 65535
theorem CongBoth.keep {g1 g2 : Nat} {w w' : World} {S : Nat → Prop} (h : CongBoth g1 g2 w) (ho : Only S w w') (h1 : ¬ S g1) (h2 : ¬ S g2) : CongBoth g1 g2 w' := by
  obtain ⟨mss, size, slow, hB1, hB2, h⟩ := h
  exact ⟨mss, size, slow, hB1.only ho h1, hB2.only ho h2, h⟩

/-- A pair of calls that do the same to both. -/
def PairOf (f1 f2 : FuncId) (args : List Value) (B : World → Prop) (g1 g2 : Nat) (w : World) : Prop := ∃ (P : World → Prop),
    (Calls Try.prog f1 (.pointer (some ⟨g1, 0, none⟩) :: args).toArray w fun e w' => e = .returned (.tuple #[]) ∧ P w' ∧ Only (· = g1) w w') ∧
    ∀ w1, P w1 → Calls Try.prog f2 (.pointer (some ⟨g2, 0, none⟩) :: args).toArray w1 fun e w' => e = .returned (.tuple #[]) ∧ B w' ∧ Only (· = g2) w1 w'

section
variable {g1 g2 : Nat} (hne : g1 ≠ g2) (n : Int) (w : World) (hR : CongBoth g1 g2 w) (hn : -9223372036854775808 ≤ n) (hn' : n ≤ 9223372036854775807)
include hne hR hn hn'
theorem acked_both : PairOf 46 47 [.int .i64 n] (CongBoth g1 g2) g1 g2 w := by
  obtain ⟨mss, size, slow, hB1, hB2, h1, h2, h3, h4⟩ := hR
  have hb := ackN_bd mss size slow n h1 h2 h3 h4
  exact ⟨fun w' => Blk w' g1 107 (winC mss (ackN mss size slow n) slow) ∧ Blk w' g2 72 (winC mss size slow),
    (cong_Acked g1 mss size slow n w hB1 h1 h2 h3 h4 hn hn').mono fun e w' h => ⟨h.1, ⟨h.2.1, hB2.only h.2.2 (Ne.symm hne)⟩, h.2.2⟩,
    fun w1 hw => (ref_Acked g2 mss size slow n w1 hw.2 h1 h2 h3 h4 hn hn').mono fun e w' h => ⟨h.1, ⟨mss, _, slow, hw.1.only h.2.2 hne, h.2.1, h1, h2, hb.1, hb.2⟩, h.2.2⟩⟩
theorem lost_both : PairOf 42 43 [.int .i64 n] (CongBoth g1 g2) g1 g2 w := by
  obtain ⟨mss, size, slow, hB1, hB2, h1, h2, h3, h4⟩ := hR
  have hb := slowN_bd mss n h1 h2
  exact ⟨fun w' => Blk w' g1 107 (winC mss (slowN mss n) (slowN mss n)) ∧ Blk w' g2 72 (winC mss size slow),
    (cong_Lost g1 mss size slow n w hB1 h1 h2 hn hn').mono fun e w' h => ⟨h.1, ⟨h.2.1, hB2.only h.2.2 (Ne.symm hne)⟩, h.2.2⟩,
    fun w1 hw => (ref_Lost g2 mss size slow n w1 hw.2 h1 h2 hn hn').mono fun e w' h => ⟨h.1, ⟨mss, _, _, hw.1.only h.2.2 hne, h.2.1, h1, h2, by omega, hb.2⟩, h.2.2⟩⟩
theorem silent_both : PairOf 44 45 [.int .i64 n] (CongBoth g1 g2) g1 g2 w := by
  obtain ⟨mss, size, slow, hB1, hB2, h1, h2, h3, h4⟩ := hR
  exact ⟨fun w' => Blk w' g1 107 (winC mss mss (slowN mss n)) ∧ Blk w' g2 72 (winC mss size slow),
    (cong_Silent g1 mss size slow n w hB1 h1 h2 hn hn').mono fun e w' h => ⟨h.1, ⟨h.2.1, hB2.only h.2.2 (Ne.symm hne)⟩, h.2.2⟩,
    fun w1 hw => (ref_Silent g2 mss size slow n w1 hw.2 h1 h2 hn hn').mono fun e w' h => ⟨h.1, ⟨mss, _, _, hw.1.only h.2.2 hne, h.2.1, h1, h2, by omega, by omega⟩, h.2.2⟩⟩
end

set_option maxRecDepth 100000 in
set_option maxHeartbeats 2000000 in
theorem walk_congSays (w : World) (mss : Int) (a : Option Addr) (len cap : Nat) (hm0 : -9223372036854775808 ≤ mss) (hm1 : mss ≤ 9223372036854775807) (o : Opened stepLeaves w a len cap) :
    Calls Try.prog 10 #[.int .i64 mss, .slice a len cap] w fun e w' => e = .returned (.bool true) ∧ Below w.heap.size w w' := by
  by_cases hmss : mss < 8 ∨ 1000 < mss
  · have h1 := Lib.hid (cong_New_no mss w hmss)
    have h2 := Lib.hid (ref_CwndNew_no mss w hmss)
    clear o hmss
    go_enter Try.func10, Try.ntmps10
    go_wp2_with (first
      | (go_at_call 40; refine h1.out.mono ?_; rintro e w' ⟨rfl, rfl⟩)
      | (go_at_call 41; refine h2.out.mono ?_; rintro e w' ⟨rfl, rfl⟩))
    go_ret
    exact ⟨rfl, Below.refl _ _⟩
  have hl8 : 8 ≤ mss := by omega
  have hl1 : mss ≤ 1000 := by omega
  clear hmss
  obtain ⟨C, hlen, hC⟩ := came_of o
  clear o
  have hR0 : CongBoth w.heap.size (w.heap.size + 1) ((w.alloc (.cells (winC mss (2 * mss) 65535).toArray 107)).alloc (.cells (winC mss (2 * mss) 65535).toArray 72)) := by
    refine ⟨mss, 2 * mss, 65535, ?_, ?_, hl8, hl1, by omega, by omega⟩
    · exact (Blk.new w _ _).alloc _
    · have := Blk.new (w.alloc (.cells (winC mss (2 * mss) 65535).toArray 107)) 72 (winC mss (2 * mss) 65535)
      simpa using this
  rcases hC with rfl | ⟨b, off, rfl, hb, hC⟩
  · have HR0 := Lib.hid hR0
    clear hR0
    go_enter Try.func10, Try.ntmps10
    go_wp2_with (first
      | (go_at_call 40; refine (cong_New _ _ (by omega) (by omega)).mono ?_; rintro e w' ⟨rfl, rfl⟩)
      | (go_at_call 41; refine (ref_CwndNew _ _ (by omega) (by omega)).mono ?_; rintro e w' ⟨rfl, rfl⟩))
    refine wp_loop_rounds 1 ?_
    rw [rounds_succ]
    go_wp2_with fail
    obtain ⟨m3, z3, s3, hb1, hb2, _, _, _, _⟩ := HR0.out
    have k1 : ((w.alloc (.cells (winC mss (2 * mss) 65535).toArray 107)).alloc (.cells (winC mss (2 * mss) 65535).toArray 72)).cell? ⟨w.heap.size, 1, none⟩ = some (.int .i64 z3) := hb1.at_ rfl
    have k2 : ((w.alloc (.cells (winC mss (2 * mss) 65535).toArray 107)).alloc (.cells (winC mss (2 * mss) 65535).toArray 72)).cell? ⟨w.heap.size + 1, 1, none⟩ = some (.int .i64 z3) := hb2.at_ rfl
    clear hb1 hb2
    go_wp2_with fail
    go_quiet ((go_at_call 48; exact Calls.quiet_of_same (cong_Size _ z3 _ (by simpa using k1))))
    go_wp2
    go_ret
    exact ⟨by simp, below_drewN (by go_grown) _⟩
  have HC := Lib.hid hC
  have HR0 := Lib.hid hR0
  clear hC hR0
  go_enter Try.func10, Try.ntmps10
  go_wp2_with (first
    | (go_at_call 40; refine (cong_New _ _ (by omega) (by omega)).mono ?_; rintro e w' ⟨rfl, rfl⟩)
    | (go_at_call 41; refine (ref_CwndNew _ _ (by omega) (by omega)).mono ?_; rintro e w' ⟨rfl, rfl⟩))
  go_loopw [37] (fun i wr => ∃ k : Nat, k ≤ len ∧ i = .int .i64 k ∧ Hid (Below w.heap.size w wr ∧ w.heap.size + 1 < wr.heap.size ∧ CongBoth w.heap.size (w.heap.size + 1) wr)) (fun i _ => len - (intOf i).toNat)
  case atStart => exact ⟨0, Nat.zero_le _, rfl, by go_grown, by simp, HR0.out⟩
  case round =>
    obtain ⟨k, hk, rfl, hI⟩ := hrel
    by_cases hlt : k < len
    · obtain ⟨hleaf, hr0⟩ := HC.out k hlt
      have hr := range_below hI.out.1 hr0 hb
      obtain ⟨kd, hkd, hkw⟩ := leaf_int hleaf 0 (k := .i64) rfl
      obtain ⟨av, hav, haw⟩ := leaf_int hleaf 1 (k := .i64) rfl
      have hcl : (C k).length = 45 := leafAll_length hleaf
      have hcell := leafAll_cell hleaf
      have bk := bounds_i64 hkw
      have bav := bounds_i64 haw
      have hinfo : (Try.prog.info? 60).map (·.size) = some (C k).length := by rw [hcl]; exact step_info
      have hr : wr.rangeAt b (off + k * 45) (C k) := hr
      generalize C k = cs at *
      have HI := Lib.hid hinfo
      have HCL := Lib.hid hcl
      have HCE := Lib.hid hcell
      clear hleaf hr0 hkw hinfo hcell hcl haw
      go_wp2_with (first
        | (refine wpList_load_mid rfl 60 (.tmp 39) rfl b (off + k * 45) rfl cs _ hr Try.underlying60 rfl HI.out ?_)
        | (refine wpList_store_new rfl 60 (.tmp 10) (.tmp 40) rfl _ cs rfl rfl HCL.out HI.out HCE.out ?_)
        | (refine wpList_load_mid rfl 60 (.tmp 10) rfl wr.heap.size 0 rfl cs _ (Blk.new wr _ cs).range Try.underlying60 rfl HI.out ?_))
      refine (step_Of cs kd 4 _ hkd bk.1 bk.2 (by omega) (by omega)).mono ?_
      rintro e w1 ⟨rfl, hb1⟩
      have hx : Blk w1 wr.heap.size 60 cs := (Blk.new wr _ cs).below hb1 (by simp)
      have hbw : Below wr.heap.size wr w1 := (Below.alloc (Below.refl _ _) (Nat.le_refl _) _).trans (hb1.mono (by simp))
      have hB1 : Below w.heap.size w w1 := hI.out.1.trans (hbw.mono (by have := hI.out.2.1; omega))
      have hsz : wr.heap.size < w1.heap.size := by have := hx.lt; exact this
      have hR1 : CongBoth w.heap.size (w.heap.size + 1) w1 := hI.out.2.2.keep (Only.of_below hbw (fun _ => False)) (by simp) (by simp)
      have hlo := hI.out.2.1
      have HB1 := Lib.hid hB1
      have HX := Lib.hid hx
      have HR1 := Lib.hid hR1
      clear hB1 hx hR1 hbw hI hb1 hr hkd
      by_cases hk0 : kd % 4 = 0
      · have q0 : (kd % 4 == 0) = true := by rw [beq_iff_eq]; exact hk0
        clear hk0
        obtain ⟨Pm, hs1, hs2⟩ := lost_both (by omega : w.heap.size ≠ w.heap.size + 1) av w1 HR1.out bav.1 bav.2
        have HS1 := Lib.hid hs1
        have HS2 := Lib.hid hs2
        have hc1 : w1.cell? ⟨wr.heap.size, 1, none⟩ = some (.int .i64 av) := HX.out.at_ hav
        clear hs1 hs2 hav
        go_wp2_with fail
        refine HS1.out.mono ?_
        rintro e w2 ⟨rfl, hP, ho2⟩
        have hc2 := (ho2.cell (p := ⟨wr.heap.size, 1, none⟩) hsz (by simp; omega)).trans hc1
        have HP := Lib.hid hP
        clear hP
        go_wp2_with fail
        refine (HS2.out _ HP.out).mono ?_
        rintro e w3 ⟨rfl, hR3, ho3⟩
        have hB3 : Below w.heap.size w w3 := ho3.below (ho2.below HB1.out HB1.out.size (by rintro i rfl; omega)) (by have := HB1.out.size; have := ho2.size; omega) (by rintro i rfl; omega)
        have hz3 : w.heap.size + 1 < w3.heap.size := by have := ho2.size; have := ho3.size; omega
        have HI3 := Lib.hid (show _ ∧ _ ∧ _ from ⟨hB3, hz3, hR3⟩)
        obtain ⟨m3, z3, s3, hb1, hb2, _, _, _, _⟩ := hR3
        have k1 : w3.cell? ⟨w.heap.size, 1, none⟩ = some (.int .i64 z3) := hb1.at_ rfl
        have k2 : w3.cell? ⟨w.heap.size + 1, 1, none⟩ = some (.int .i64 z3) := hb2.at_ rfl
        have k3 : w3.cell? ⟨w.heap.size, 2, none⟩ = some (.int .i64 s3) := hb1.at_ rfl
        have k4 : w3.cell? ⟨w.heap.size + 1, 2, none⟩ = some (.int .i64 s3) := hb2.at_ rfl
        clear hb1 hb2 hB3 ho2 ho3 HP HS1 HS2 hc1 hc2
        go_wp2_with fail
        go_quiet ((first | (go_at_call 48; exact Calls.quiet_of_same (cong_Size _ z3 _ (by simpa using k1))) | (go_at_call 49; exact Calls.quiet_of_same (cong_Slow _ s3 _ (by simpa using k3)))))
        go_wp2
        go_roundw
        case rel => exact ⟨k + 1, by omega, by go_num, below_drewN HI3.out.1 _, by simpa using HI3.out.2.1, HI3.out.2.2⟩
        case measure => simp [intOf]; omega
      · have q0 : (kd % 4 == 0) = false := by rw [beq_eq_false_iff_ne]; exact hk0
        clear hk0
        by_cases hk1 : kd % 4 = 1
        · have q1 : (kd % 4 == 1) = true := by rw [beq_iff_eq]; exact hk1
          clear hk1
          obtain ⟨Pm, hs1, hs2⟩ := silent_both (by omega : w.heap.size ≠ w.heap.size + 1) av w1 HR1.out bav.1 bav.2
          have HS1 := Lib.hid hs1
          have HS2 := Lib.hid hs2
          have hc1 : w1.cell? ⟨wr.heap.size, 1, none⟩ = some (.int .i64 av) := HX.out.at_ hav
          clear hs1 hs2 hav
          go_wp2_with fail
          refine HS1.out.mono ?_
          rintro e w2 ⟨rfl, hP, ho2⟩
          have hc2 := (ho2.cell (p := ⟨wr.heap.size, 1, none⟩) hsz (by simp; omega)).trans hc1
          have HP := Lib.hid hP
          clear hP
          go_wp2_with fail
          refine (HS2.out _ HP.out).mono ?_
          rintro e w3 ⟨rfl, hR3, ho3⟩
          have hB3 : Below w.heap.size w w3 := ho3.below (ho2.below HB1.out HB1.out.size (by rintro i rfl; omega)) (by have := HB1.out.size; have := ho2.size; omega) (by rintro i rfl; omega)
          have hz3 : w.heap.size + 1 < w3.heap.size := by have := ho2.size; have := ho3.size; omega
          have HI3 := Lib.hid (show _ ∧ _ ∧ _ from ⟨hB3, hz3, hR3⟩)
          obtain ⟨m3, z3, s3, hb1, hb2, _, _, _, _⟩ := hR3
          have k1 : w3.cell? ⟨w.heap.size, 1, none⟩ = some (.int .i64 z3) := hb1.at_ rfl
          have k2 : w3.cell? ⟨w.heap.size + 1, 1, none⟩ = some (.int .i64 z3) := hb2.at_ rfl
          have k3 : w3.cell? ⟨w.heap.size, 2, none⟩ = some (.int .i64 s3) := hb1.at_ rfl
          have k4 : w3.cell? ⟨w.heap.size + 1, 2, none⟩ = some (.int .i64 s3) := hb2.at_ rfl
          clear hb1 hb2 hB3 ho2 ho3 HP HS1 HS2 hc1 hc2
          go_wp2_with fail
          go_quiet ((first | (go_at_call 48; exact Calls.quiet_of_same (cong_Size _ z3 _ (by simpa using k1))) | (go_at_call 49; exact Calls.quiet_of_same (cong_Slow _ s3 _ (by simpa using k3)))))
          go_wp2
          go_roundw
          case rel => exact ⟨k + 1, by omega, by go_num, below_drewN HI3.out.1 _, by simpa using HI3.out.2.1, HI3.out.2.2⟩
          case measure => simp [intOf]; omega
        · have q1 : (kd % 4 == 1) = false := by rw [beq_eq_false_iff_ne]; exact hk1
          clear hk1
          obtain ⟨Pm, hs1, hs2⟩ := acked_both (by omega : w.heap.size ≠ w.heap.size + 1) av w1 HR1.out bav.1 bav.2
          have HS1 := Lib.hid hs1
          have HS2 := Lib.hid hs2
          have hc1 : w1.cell? ⟨wr.heap.size, 1, none⟩ = some (.int .i64 av) := HX.out.at_ hav
          clear hs1 hs2 hav
          go_wp2_with fail
          refine HS1.out.mono ?_
          rintro e w2 ⟨rfl, hP, ho2⟩
          have hc2 := (ho2.cell (p := ⟨wr.heap.size, 1, none⟩) hsz (by simp; omega)).trans hc1
          have HP := Lib.hid hP
          clear hP
          go_wp2_with fail
          refine (HS2.out _ HP.out).mono ?_
          rintro e w3 ⟨rfl, hR3, ho3⟩
          have hB3 : Below w.heap.size w w3 := ho3.below (ho2.below HB1.out HB1.out.size (by rintro i rfl; omega)) (by have := HB1.out.size; have := ho2.size; omega) (by rintro i rfl; omega)
          have hz3 : w.heap.size + 1 < w3.heap.size := by have := ho2.size; have := ho3.size; omega
          have HI3 := Lib.hid (show _ ∧ _ ∧ _ from ⟨hB3, hz3, hR3⟩)
          obtain ⟨m3, z3, s3, hb1, hb2, _, _, _, _⟩ := hR3
          have k1 : w3.cell? ⟨w.heap.size, 1, none⟩ = some (.int .i64 z3) := hb1.at_ rfl
          have k2 : w3.cell? ⟨w.heap.size + 1, 1, none⟩ = some (.int .i64 z3) := hb2.at_ rfl
          have k3 : w3.cell? ⟨w.heap.size, 2, none⟩ = some (.int .i64 s3) := hb1.at_ rfl
          have k4 : w3.cell? ⟨w.heap.size + 1, 2, none⟩ = some (.int .i64 s3) := hb2.at_ rfl
          clear hb1 hb2 hB3 ho2 ho3 HP HS1 HS2 hc1 hc2
          go_wp2_with fail
          go_quiet ((first | (go_at_call 48; exact Calls.quiet_of_same (cong_Size _ z3 _ (by simpa using k1))) | (go_at_call 49; exact Calls.quiet_of_same (cong_Slow _ s3 _ (by simpa using k3)))))
          go_wp2
          go_roundw
          case rel => exact ⟨k + 1, by omega, by go_num, below_drewN HI3.out.1 _, by simpa using HI3.out.2.1, HI3.out.2.2⟩
          case measure => simp [intOf]; omega
    · have HB := Lib.hid hI.out.1
      have hR3 := hI.out.2.2
      clear hI
      obtain ⟨m3, z3, s3, hb1, hb2, _, _, _, _⟩ := hR3
      have k1 : (wr).cell? ⟨w.heap.size, 1, none⟩ = some (.int .i64 z3) := hb1.at_ rfl
      have k2 : (wr).cell? ⟨w.heap.size + 1, 1, none⟩ = some (.int .i64 z3) := hb2.at_ rfl
      clear hb1 hb2
      go_wp2_with fail
      go_quiet ((go_at_call 48; exact Calls.quiet_of_same (cong_Size _ z3 _ (by simpa using k1))))
      go_wp2
      go_ret
      exact ⟨by simp, below_drewN HB.out _⟩
end Go.Proofs.Ytdpapkcibpcmjaa
