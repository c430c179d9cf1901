/- The walk of the law RtoSays. -/
import Derived.Test.YtdpapkcibpcmjaaRtoRef
import Derived.Deep.DrawnRows
namespace Go.Proofs.Ytdpapkcibpcmjaa
open Go.RowKit
set_option linter.unusedVariables false

theorem rto_New (w : World) : Calls Try.prog 31 #[] w fun e w' => e = .returned (.pointer (some ⟨w.heap.size, 0, none⟩)) ∧ w.alloc (.cells (timerC false 0 0 0).toArray 101) = w' := by
  go_enter Try.func31, Try.ntmps31
  go_wp2
  go_ret
  exact ⟨rfl, rfl⟩
theorem ref_RtoNew (w : World) : Calls Try.prog 32 #[] w fun e w' => e = .returned (.pointer (some ⟨w.heap.size, 0, none⟩)) ∧ w.alloc (.cells (rtoC (-1) 0 0).toArray 103) = w' := by
  go_enter Try.func32, Try.ntmps32
  go_wp2
  go_ret
  exact ⟨rfl, rfl⟩

/-- Both timers hold the same. -/
def RtoBoth (g1 g2 : Nat) (w : World) : Prop := ∃ (k : Bool) (m1 m2 s d : Int), Blk w g1 101 (timerC k m1 s d) ∧ Blk w g2 103 (rtoC m2 s d) ∧
  0 ≤ s ∧ s ≤ 4398046511104 ∧ 0 ≤ d ∧ d ≤ 6 ∧ ((k = true ∧ m1 = m2 ∧ 0 ≤ m2 ∧ m2 ≤ 8796093022208) ∨ (k = false ∧ m2 = -1))

theorem RtoBoth.keep {g1 g2 : Nat} {w w' : World} {S : Nat → Prop} (h : RtoBoth g1 g2 w) (ho : Only S w w') (h1 : ¬ S g1) (h2 : ¬ S g2) : RtoBoth g1 g2 w' := by
  obtain ⟨k, m1, m2, s, d, hB1, hB2, h⟩ := h
  exact ⟨k, m1, m2, s, d, hB1.only ho h1, hB2.only ho h2, h⟩

theorem sample_both {g1 g2 : Nat} (hne : g1 ≠ g2) (r : Int) (w : World) (hR : RtoBoth g1 g2 w) : ∃ (er : Int) (P : World → Prop),
    (Calls Try.prog 33 #[.pointer (some ⟨g1, 0, none⟩), .int .i64 r] w fun e w' => e = .returned (.int .i64 er) ∧ P w' ∧ Only (· = g1) w w') ∧
    ∀ w1, P w1 → Calls Try.prog 35 #[.pointer (some ⟨g2, 0, none⟩), .int .i64 r] w1 fun e w' => e = .returned (.int .i64 er) ∧ RtoBoth g1 g2 w' ∧ Only (· = g2) w1 w' := by
  obtain ⟨k, m1, m2, s, d, hB1, hB2, hs, hs', hd, hd', hk⟩ := hR
  by_cases hr : r < 0 ∨ 1099511627776 < r
  · refine ⟨1, fun w' => w = w', (rto_Sample_no g1 r w hr).mono fun e w' h => ⟨h.1, h.2, by rw [← h.2]; exact Only.refl _ _⟩, fun w1 hw => (ref_Sample_no g2 r w1 hr).mono fun e w' h => ⟨h.1, ?_, by rw [← h.2]; exact Only.refl _ _⟩⟩
    rw [← h.2, ← hw]
    exact ⟨k, m1, m2, s, d, hB1, hB2, hs, hs', hd, hd', hk⟩
  · have hr0 : 0 ≤ r := by omega
    have hr1 : r ≤ 1099511627776 := by omega
    rcases hk with ⟨rfl, rfl, hm, hm'⟩ | ⟨rfl, rfl⟩
    · refine ⟨0, fun w' => Blk w' g1 101 (timerC true (m1 + (r - m1 / 8)) (s + (absI (r - m1 / 8) - s / 4)) 0) ∧ Blk w' g2 103 (rtoC m1 s d),
        (rto_Sample_next g1 m1 s d r w hB1 hr0 hr1 hm hm' hs hs').mono fun e w' h => ⟨h.1, ⟨h.2.1, hB2.only h.2.2 (Ne.symm hne)⟩, h.2.2⟩,
        fun w1 hw => (ref_Sample_next g2 m1 s d r w1 hw.2 hr0 hr1 hm hm' hs hs').mono fun e w' h => ⟨h.1, ⟨true, _, _, _, _, hw.1.only h.2.2 hne, h.2.1, ?_, ?_, by omega, by omega, .inl ⟨rfl, rfl, by omega, by omega⟩⟩, h.2.2⟩⟩
      · unfold absI; split <;> omega
      · unfold absI; split <;> omega
    · refine ⟨0, fun w' => Blk w' g1 101 (timerC true (8 * r) (2 * r) 0) ∧ Blk w' g2 103 (rtoC (-1) s d),
        (rto_Sample_first g1 m1 s d r w hB1 hr0 hr1).mono fun e w' h => ⟨h.1, ⟨h.2.1, hB2.only h.2.2 (Ne.symm hne)⟩, h.2.2⟩,
        fun w1 hw => (ref_Sample_first g2 s d r w1 hw.2 hr0 hr1).mono fun e w' h => ⟨h.1, ⟨true, _, _, _, _, hw.1.only h.2.2 hne, h.2.1, by omega, by omega, by omega, by omega, .inl ⟨rfl, rfl, by omega, by omega⟩⟩, h.2.2⟩⟩

theorem late_both {g1 g2 : Nat} (hne : g1 ≠ g2) (w : World) (hR : RtoBoth g1 g2 w) : ∃ (P : World → Prop),
    (Calls Try.prog 36 #[.pointer (some ⟨g1, 0, none⟩)] w fun e w' => e = .returned (.tuple #[]) ∧ P w' ∧ Only (· = g1) w w') ∧
    ∀ w1, P w1 → Calls Try.prog 37 #[.pointer (some ⟨g2, 0, none⟩)] w1 fun e w' => e = .returned (.tuple #[]) ∧ RtoBoth g1 g2 w' ∧ Only (· = g2) w1 w' := by
  obtain ⟨k, m1, m2, s, d, hB1, hB2, hs, hs', hd, hd', hk⟩ := hR
  have hl : 0 ≤ lateD d ∧ lateD d ≤ 6 := by unfold lateD; split <;> omega
  exact ⟨fun w' => Blk w' g1 101 (timerC k m1 s (lateD d)) ∧ Blk w' g2 103 (rtoC m2 s d),
    (rto_Late g1 k m1 s d w hB1 hd hd').mono fun e w' h => ⟨h.1, ⟨h.2.1, hB2.only h.2.2 (Ne.symm hne)⟩, h.2.2⟩,
    fun w1 hw => (ref_Late g2 m2 s d w1 hw.2 hd hd').mono fun e w' h => ⟨h.1, ⟨k, m1, m2, s, lateD d, hw.1.only h.2.2 hne, h.2.1, hs, hs', hl.1, hl.2, hk⟩, h.2.2⟩⟩

theorem value_both {g1 g2 : Nat} (w : World) (hR : RtoBoth g1 g2 w) : ∃ v : Int,
    (Calls Try.prog 38 #[.pointer (some ⟨g1, 0, none⟩)] w fun e w' => e = .returned (.int .i64 v) ∧ ∃ m, w' = w.drewN m) ∧
    ∀ n, Calls Try.prog 39 #[.pointer (some ⟨g2, 0, none⟩)] (w.drewN n) fun e w' => e = .returned (.int .i64 v) ∧ ∃ m, w' = w.drewN m := by
  obtain ⟨k, m1, m2, s, d, hB1, hB2, hs, hs', hd, hd', hk⟩ := hR
  rcases hk with ⟨rfl, rfl, hm, hm'⟩ | ⟨rfl, rfl⟩
  · refine ⟨valueV true m1 s d, rto_Value_kn g1 m1 s d _ hB1 hd hd' hm hm' hs hs', fun n => (ref_Value_kn g2 m1 s d _ (hB2.drewN n) hd hd' hm hm' hs hs').mono fun e w' h => ⟨h.1, ?_⟩⟩
    obtain ⟨_, m, rfl⟩ := h
    exact ⟨_, World.drewN_drewN _ _ _⟩
  · refine ⟨valueV false 0 s d, (rto_Value_un g1 m1 s d _ hB1 hd hd').mono fun e w' h => ⟨h.1.trans (ret_int rfl), h.2⟩, fun n => (ref_Value_un g2 s d _ (hB2.drewN n) hd hd').mono fun e w' h => ⟨h.1, ?_⟩⟩
    obtain ⟨_, m, rfl⟩ := h
    exact ⟨_, World.drewN_drewN _ _ _⟩

theorem RtoBoth.drewN {g1 g2 : Nat} {w : World} (h : RtoBoth g1 g2 w) (n : Nat) : RtoBoth g1 g2 (w.drewN n) := h
set_option maxRecDepth 100000 in
set_option maxHeartbeats 1000000 in
theorem walk_rtoSays (w : World) (a : Option Addr) (len cap : Nat) (o : Opened stepLeaves w a len cap) :
    Calls Try.prog 9 #[.slice a len cap] w fun e w' => e = .returned (.bool true) ∧ Below w.heap.size w w' := by
  obtain ⟨C, hlen, hC⟩ := came_of o
  clear o
  have hR0 : RtoBoth w.heap.size (w.heap.size + 1) ((w.alloc (.cells (timerC false 0 0 0).toArray 101)).alloc (.cells (rtoC (-1) 0 0).toArray 103)) := by
    refine ⟨false, 0, -1, 0, 0, ?_, ?_, by omega, by omega, by omega, by omega, .inr ⟨rfl, rfl⟩⟩
    · exact (Blk.new w _ _).alloc _
    · have := Blk.new (w.alloc (.cells (timerC false 0 0 0).toArray 101)) 103 (rtoC (-1) 0 0)
      simpa using this
  rcases hC with rfl | ⟨b, off, rfl, hb, hC⟩
  · obtain ⟨v, hv1, hv2⟩ := value_both _ hR0
    have HV1 := Lib.hid hv1
    have HV2 := Lib.hid hv2
    clear hv1 hv2 hR0
    go_enter Try.func9, Try.ntmps9
    go_wp2_with (first
      | (go_at_call 31; refine (rto_New _).mono ?_; rintro e w' ⟨rfl, rfl⟩)
      | (go_at_call 32; refine (ref_RtoNew _).mono ?_; rintro e w' ⟨rfl, rfl⟩)
      | (go_at_call 33; refine (rto_Sample_no _ _ _ (by omega)).mono ?_; rintro e w' ⟨rfl, rfl⟩))
    refine wp_loop_rounds 1 ?_
    rw [rounds_succ]
    go_wp2_with (first
      | (go_at_call 38; refine HV1.out.mono ?_; rintro e w4 ⟨rfl, n4, rfl⟩)
      | (go_at_call 39; refine (HV2.out _).mono ?_; rintro e w5 ⟨rfl, n5, rfl⟩))
    go_ret
    exact ⟨by simp, below_drewN (by go_grown) _⟩
  have HC := Lib.hid hC
  have HR0 := Lib.hid hR0
  clear hC hR0
  go_enter Try.func9, Try.ntmps9
  go_wp2_with (first
    | (go_at_call 31; refine (rto_New _).mono ?_; rintro e w' ⟨rfl, rfl⟩)
    | (go_at_call 32; refine (ref_RtoNew _).mono ?_; rintro e w' ⟨rfl, rfl⟩)
    | (go_at_call 33; refine (rto_Sample_no _ _ _ (by omega)).mono ?_; rintro e w' ⟨rfl, rfl⟩))
  go_loopw [18] (fun i wr => ∃ k : Nat, k ≤ len ∧ i = .int .i64 k ∧ Hid (Below w.heap.size w wr ∧ w.heap.size + 1 < wr.heap.size ∧ RtoBoth w.heap.size (w.heap.size + 1) wr)) (fun i _ => len - (intOf i).toNat)
  case atStart =>
    exact ⟨0, Nat.zero_le _, rfl, by go_grown, by simp, HR0.out⟩
  case round =>
    obtain ⟨k, hk, rfl, hI⟩ := hrel
    by_cases hlt : k < len
    · obtain ⟨hleaf, hr0⟩ := HC.out k hlt
      have hr := range_below hI.out.1 hr0 hb
      obtain ⟨kd, hkd, hkw⟩ := leaf_int hleaf 0 (k := .i64) rfl
      obtain ⟨av, hav, haw⟩ := leaf_int hleaf 1 (k := .i64) rfl
      have hcl : (C k).length = 45 := leafAll_length hleaf
      have hcell := leafAll_cell hleaf
      have bk := bounds_i64 hkw
      have hinfo : (Try.prog.info? 60).map (·.size) = some (C k).length := by rw [hcl]; exact step_info
      have hr : wr.rangeAt b (off + k * 45) (C k) := hr
      generalize C k = cs at *
      have HI := Lib.hid hinfo
      have HCL := Lib.hid hcl
      have HCE := Lib.hid hcell
      clear hleaf hr0 hkw hinfo hcell hcl
      go_wp2_with (first
        | (refine wpList_load_mid rfl 60 (.tmp 20) rfl b (off + k * 45) rfl cs _ hr Try.underlying60 rfl HI.out ?_)
        | (refine wpList_store_new rfl 60 (.tmp 6) (.tmp 21) rfl _ cs rfl rfl HCL.out HI.out HCE.out ?_)
        | (refine wpList_load_mid rfl 60 (.tmp 6) rfl wr.heap.size 0 rfl cs _ (Blk.new wr _ cs).range Try.underlying60 rfl HI.out ?_))
      refine (step_Of cs kd 3 _ hkd bk.1 bk.2 (by omega) (by omega)).mono ?_
      rintro e w1 ⟨rfl, hb1⟩
      have hx : Blk w1 wr.heap.size 60 cs := (Blk.new wr _ cs).below hb1 (by simp)
      have hbw : Below wr.heap.size wr w1 := (Below.alloc (Below.refl _ _) (Nat.le_refl _) _).trans (hb1.mono (by simp))
      have hB1 : Below w.heap.size w w1 := hI.out.1.trans (hbw.mono (by have := hI.out.2.1; omega))
      have hsz : wr.heap.size < w1.heap.size := by have := hx.lt; exact this
      have hR1 : RtoBoth w.heap.size (w.heap.size + 1) w1 := hI.out.2.2.keep (Only.of_below hbw (fun _ => False)) (by simp) (by simp)
      have hlo := hI.out.2.1
      have HB1 := Lib.hid hB1
      have HX := Lib.hid hx
      have HR1 := Lib.hid hR1
      clear hB1 hx hR1 hbw hI hb1 hr hkd
      by_cases hk3 : 0 < kd % 3
      · obtain ⟨er, Pm, hs1, hs2⟩ := sample_both (by omega : w.heap.size ≠ w.heap.size + 1) av w1.drew HR1.out
        have HS1 := Lib.hid hs1
        have HS2 := Lib.hid hs2
        clear hs1 hs2
        have hc1 : w1.cell? ⟨wr.heap.size, 1, none⟩ = some (.int .i64 av) := HX.out.at_ hav
        clear hav
        go_wp2_with fail
        go_region_held3 (fun w' => w'.cell? ⟨wr.heap.size, 1, none⟩ = some (.int .i64 av)) (first | assumption | go_keep)
          (first
            | (go_at_call 33; refine HS1.out.mono ?_; rintro e w2 ⟨rfl, hP, ho2⟩; have hc2 := (ho2.cell (p := ⟨wr.heap.size, 1, none⟩) hsz (by simp; omega)).trans hc1)
            | (go_at_call 35; refine (HS2.out _ hP).mono ?_; rintro e w3 ⟨rfl, hR3, ho3⟩; have hc3 := (ho3.cell (p := ⟨wr.heap.size, 1, none⟩) (Nat.lt_of_lt_of_le hsz ho2.size) (by simp; omega)).trans hc2))
        have hB3 : Below w.heap.size w w3 := ho3.below (ho2.below (HB1.out.drew) (by have := HB1.out.size; simpa using this) (by rintro i rfl; omega)) (by have := HB1.out.size; have := ho2.size; simp at this; omega) (by rintro i rfl; omega)
        have hz3 : w.heap.size + 1 < w3.heap.size := by have := ho2.size; have := ho3.size; simp at *; omega
        obtain ⟨v, hv1, hv2⟩ := value_both w3 hR3
        have HV1 := Lib.hid hv1
        have HV2 := Lib.hid hv2
        have HI3 := Lib.hid (show _ ∧ _ ∧ _ from ⟨hB3, hz3, hR3⟩)
        clear hv1 hv2 hB3 hR3 ho2 ho3 hc1 hc2 hc3 hP HS1 HS2
        go_wp2_with (first
          | (go_at_call 38; refine HV1.out.mono ?_; rintro e w4 ⟨rfl, n4, rfl⟩)
          | (go_at_call 39; refine (HV2.out _).mono ?_; rintro e w5 ⟨rfl, n5, rfl⟩))
        go_roundw
        case rel => exact ⟨k + 1, by omega, by go_num, below_drewN HI3.out.1 _, by simpa using HI3.out.2.1, HI3.out.2.2.drewN _⟩
        case measure => simp [intOf]; omega
      · obtain ⟨Pm, hs1, hs2⟩ := late_both (by omega : w.heap.size ≠ w.heap.size + 1) w1 HR1.out
        have HS1 := Lib.hid hs1
        have HS2 := Lib.hid hs2
        clear hs1 hs2
        clear hav
        go_wp2_with fail
        refine HS1.out.mono ?_
        rintro e w2 ⟨rfl, hP, ho2⟩
        have HP := Lib.hid hP
        clear hP
        go_wp2_with fail
        refine (HS2.out _ HP.out).mono ?_
        rintro e w3 ⟨rfl, hR3, ho3⟩
        have hB3 : Below w.heap.size w w3 := ho3.below (ho2.below HB1.out HB1.out.size (by rintro i rfl; omega)) (by have := HB1.out.size; have := ho2.size; omega) (by rintro i rfl; omega)
        have hz3 : w.heap.size + 1 < w3.heap.size := by have := ho2.size; have := ho3.size; omega
        obtain ⟨v, hv1, hv2⟩ := value_both w3 hR3
        have HV1 := Lib.hid hv1
        have HV2 := Lib.hid hv2
        have HI3 := Lib.hid (show _ ∧ _ ∧ _ from ⟨hB3, hz3, hR3⟩)
        clear hv1 hv2 hB3 hR3 ho2 ho3 HP HS1 HS2
        go_wp2_with (first
          | (go_at_call 38; refine HV1.out.mono ?_; rintro e w4 ⟨rfl, n4, rfl⟩)
          | (go_at_call 39; refine (HV2.out _).mono ?_; rintro e w5 ⟨rfl, n5, rfl⟩))
        go_roundw
        case rel => exact ⟨k + 1, by omega, by go_num, below_drewN HI3.out.1 _, by simpa using HI3.out.2.1, HI3.out.2.2.drewN _⟩
        case measure => simp [intOf]; omega
    · obtain ⟨v, hv1, hv2⟩ := value_both wr hI.out.2.2
      have HV1 := Lib.hid hv1
      have HV2 := Lib.hid hv2
      clear hv1 hv2
      go_wp2_with (first
        | (go_at_call 38; refine HV1.out.mono ?_; rintro e w4 ⟨rfl, n4, rfl⟩)
        | (go_at_call 39; refine (HV2.out _).mono ?_; rintro e w5 ⟨rfl, n5, rfl⟩))
      go_ret
      exact ⟨by simp, below_drewN hI.out.1 _⟩
end Go.Proofs.Ytdpapkcibpcmjaa
