/- Package udp: Read. -/
import Derived.Test.YtmbjinfeinhalaaRead
import Derived.Test.YtmbjinfeinhalaaQuietA
import Derived.Test.YtmbjinfeinhalaaUdpRef
namespace Go.Proofs.Ytmbjinfeinhalaa
open Go.RowKit
set_option linter.unusedVariables false

/-- Bytes 6 and 7 struck. -/
def zero67 (l : List UInt8) : List UInt8 := l.take 6 ++ [0, 0] ++ l.drop 8
/-- Read: which error. -/
def udpErr (src dst : Int) (l : List UInt8) : Int :=
  if l.length < numL ((l.drop 4).take 2) then 3 else if numL ((l.drop 4).take 2) < l.length ∨ numL ((l.drop 6).take 2) = 0 then 4
  else if udpN src dst (zero67 l) ≠ (numL ((l.drop 6).take 2) : Int) then 5 else udpChk (numL (l.take 2)) (numL ((l.drop 2).take 2)) (l.length - 8)
def zeroGram : List Value := gramC 0 0 0 0 ⟨#[]⟩
theorem lay_gram (w : World) : (Instr.alloc 33 true (.tuple #[])).run Try.prog w = .ok (.pointer (some ⟨w.heap.size, 0, none⟩)) (w.alloc (.cells zeroGram.toArray 33)) := by kernel_rfl

theorem At8.zero {w : World} {g : Nat} {l : List UInt8} (h : At8 w g l) (h8 : 8 ≤ l.length) : At8 ((w.setCell ⟨g, 6, none⟩ (.int .u8 0)).setCell ⟨g, 7, none⟩ (.int .u8 0)) g (zero67 l) := by
  have hl : (zero67 l).length = l.length := by simp [zero67]; omega
  intro j u hu
  have hj : j < (zero67 l).length := by
    have := (List.getElem?_eq_some_iff.1 hu).1
    rwa [cells8_length] at this
  have c6 := h.cell 6 (by omega)
  have c7 := h.cell 7 (by omega)
  have c6' : (w.setCell ⟨g, 6, none⟩ (.int .u8 0)).cell? ⟨g, 6, none⟩ = some (.int .u8 0) := World.cell?_setCell_same w _ _ c6
  have c7' : (w.setCell ⟨g, 6, none⟩ (.int .u8 0)).cell? ⟨g, 7, none⟩ = some (.int .u8 ((l[7]'(by omega)).toNat : Int)) := by rw [World.cell?_setCell_other _ _ _ _ (by simp)]; exact c7
  have e1 : (l.take 6 ++ [0, 0]).length = 8 := by simp; omega
  have e2 : (l.take 6).length = 6 := by simp; omega
  rw [cells8, List.getElem?_map] at hu
  by_cases h7 : j = 7
  · subst h7
    rw [World.cell?_setCell_same _ _ _ c7', ← hu, zero67, List.getElem?_append_left (by omega), List.getElem?_append_right (by omega), e2]
    rfl
  · rw [World.cell?_setCell_other _ _ _ _ (by simp; try omega)]
    by_cases h6 : j = 6
    · subst h6
      rw [c6', ← hu, zero67, List.getElem?_append_left (by omega), List.getElem?_append_right (by omega), e2]
      rfl
    · rw [World.cell?_setCell_other _ _ _ _ (by simp; try omega), h.cell j (by omega), ← hu, zero67]
      rcases Nat.lt_or_ge j 6 with hlt | hge
      · rw [List.getElem?_append_left (by omega), List.getElem?_append_left (by omega), List.getElem?_take, if_pos hlt, List.getElem?_eq_getElem (by omega)]
        rfl
      · rw [List.getElem?_append_right (by omega), e1, List.getElem?_drop, show 8 + (j - 8) = j from by omega, List.getElem?_eq_getElem (by omega)]
        rfl

theorem udp_cases {n all told : Nat} {ck chk er : Int} (h : (if n < all then 3 else if all < n ∨ told = 0 then 4 else if ck ≠ (told : Int) then 5 else chk) = er) :
    (n < all ∧ er = 3) ∨ (all < n ∧ er = 4) ∨ (all ≤ n ∧ n ≤ all ∧ ((told : Int) == 0) = true ∧ er = 4) ∨ (all ≤ n ∧ n ≤ all ∧ ((told : Int) == 0) = false ∧ (ck != (told : Int)) = true ∧ er = 5) ∨ (all ≤ n ∧ n ≤ all ∧ ((told : Int) == 0) = false ∧ (ck != (told : Int)) = false ∧ chk = er) := by
  by_cases h1 : n < all
  · rw [if_pos h1] at h; exact .inl ⟨h1, h.symm⟩
  rw [if_neg h1] at h
  by_cases h2 : all < n
  · rw [if_pos (.inl h2)] at h; exact .inr (.inl ⟨h2, h.symm⟩)
  by_cases h3 : told = 0
  · rw [if_pos (.inr h3)] at h; exact .inr (.inr (.inl ⟨by omega, by omega, by simp [h3], h.symm⟩))
  rw [if_neg (by omega)] at h
  have h3' : ((told : Int) == 0) = false := by rw [beq_eq_false_iff_ne]; omega
  by_cases h4 : ck = (told : Int)
  · rw [if_neg (by simpa using h4)] at h; exact .inr (.inr (.inr (.inr ⟨by omega, by omega, h3', by simpa using h4, h⟩)))
  · rw [if_pos h4] at h; exact .inr (.inr (.inr (.inl ⟨by omega, by omega, h3', by simpa using h4, h.symm⟩)))

set_option maxRecDepth 100000 in
set_option maxHeartbeats 1000000 in
theorem udp_Read_any (src dst : Int) (s : ByteArray) (w : World) (h0 : 0 ≤ src) (h0' : src ≤ 4294967295) (h1 : 0 ≤ dst) (h1' : dst ≤ 4294967295) (hs : s.size ≤ 140737488351232) (h8 : 8 ≤ s.size) (er : Int) (he : udpErr src dst s.data.toList = er) :
    Calls Try.prog 40 #[.int .u32 src, .int .u32 dst, .string s] w fun e w' =>
      e = .returned (.tuple #[.agg (if er = 0 then gramC src (numL (s.data.toList.take 2)) dst (numL ((s.data.toList.drop 2).take 2)) (bs (s.data.toList.drop 8)) else zeroGram).toArray, .int .i64 er]) ∧ Below w.heap.size w w' := by
  obtain ⟨c, w1, hcv, hc, hb1, hz1, hat, hfr⟩ := bytes_of s (w.alloc (.cells #[.int .u32 0, .int .i64 0, .int .u32 0, .int .i64 0, .string ⟨#[]⟩] 33))
  have hS0 := St.start w 33 zeroGram
  change St _ _ _ _ _ (w.alloc (Obj.cells #[Value.int .u32 0, .int .i64 0, .int .u32 0, .int .i64 0, .string ⟨#[]⟩] 33)) at hS0
  have hS1 := hS0.made hb1
  simp only [World.size_alloc] at hcv hz1 hat hfr
  have hll := Lib.size_eq s
  obtain ⟨body, hbody⟩ : ∃ body, body = s.extract 8 s.size := ⟨_, rfl⟩
  have hbs : body.size = s.size - 8 := by rw [hbody]; simp
  have hbl : body = bs (s.data.toList.drop 8) := by
    rw [hbody]
    exact bs_eq (by rw [Lib.extract_data, List.take_of_length_le (by simp)])
  have hsl : ∀ W, (Instr.slice 9 (.string s) (some (.int .i64 8)) none none).run Try.prog W = .ok (.string body) W := fun W => by rw [hbody]; exact run_str_from s 8 h8 W
  generalize hgb : w.heap.size + 1 = gb at hcv hz1 hat hfr hS1
  have hs2 : ∀ W, (Instr.slice 123 (.slice (some ⟨gb, 0, none⟩) s.size c) (some (.int .i64 2)) none none).run Try.prog W = .ok (.slice (some ⟨gb, 2, none⟩) (s.size - 2) (c - 2)) W := fun W => by
    have := run_from8 gb 0 s.size c 2 (by omega) (by omega) W
    simpa using this
  have hs4 : ∀ W, (Instr.slice 123 (.slice (some ⟨gb, 0, none⟩) s.size c) (some (.int .i64 4)) none none).run Try.prog W = .ok (.slice (some ⟨gb, 4, none⟩) (s.size - 4) (c - 4)) W := fun W => by
    have := run_from8 gb 0 s.size c 4 (by omega) (by omega) W
    simpa using this
  have hs6 : ∀ W, (Instr.slice 123 (.slice (some ⟨gb, 0, none⟩) s.size c) (some (.int .i64 6)) none none).run Try.prog W = .ok (.slice (some ⟨gb, 6, none⟩) (s.size - 6) (c - 6)) W := fun W => by
    have := run_from8 gb 0 s.size c 6 (by omega) (by omega) W
    simpa using this
  have HG0 := Lib.hid (fun (W : World) (h : At8 W gb s.data.toList) => wire_Get16 gb 0 s.size c s.data.toList W h (by omega) (by omega))
  have HG2 := Lib.hid (fun (W : World) (h : At8 W gb s.data.toList) => wire_Get16 gb 2 (s.size - 2) (c - 2) s.data.toList W h (by omega) (by omega))
  have HG4 := Lib.hid (fun (W : World) (h : At8 W gb s.data.toList) => wire_Get16 gb 4 (s.size - 4) (c - 4) s.data.toList W h (by omega) (by omega))
  have HG6 := Lib.hid (fun (W : World) (h : At8 W gb s.data.toList) => wire_Get16 gb 6 (s.size - 6) (c - 6) s.data.toList W h (by omega) (by omega))
  have hn : ∀ i, numL ((s.data.toList.drop i).take 2) ≤ 65535 := fun i => by
    have := numL_le (l := (s.data.toList.drop i).take 2) (k := 2) (by simp; omega)
    omega
  unfold udpErr at he
  rw [List.drop_zero] at HG0
  have b0 := hn 0
  rw [List.drop_zero] at b0
  have b2 := hn 2
  have b4 := hn 4
  have b6 := hn 6
  have HCHK := Lib.hid (fun W => udp_check src dst (bs (zero67 s.data.toList)) W h0 h0' h1 h1' (by rw [bs_size]; simp [zero67]; omega))
  rw [bs_data] at HCHK
  generalize udpN src dst (zero67 s.data.toList) = ck at HCHK he
  generalize numL (s.data.toList.take 2) = fp at HG0 b0 he ⊢
  generalize numL ((s.data.toList.drop 2).take 2) = tp at HG2 b2 he ⊢
  generalize numL ((s.data.toList.drop 4).take 2) = all at HG4 b4 he
  generalize numL ((s.data.toList.drop 6).take 2) = told at HG6 b6 he
  rw [← hbl]
  rw [← hll, show s.size - 8 = body.size from hbs.symm] at he
  have hbz : body.size ≤ 140737488351232 := by omega
  have HUC := Lib.hid (fun W => udp_Check src fp dst tp body W (by omega))
  have hcs := udp_cases he
  have HCS := Lib.hid hcs
  have HGB := Lib.hid hgb
  have HLL := Lib.hid hll
  have HS1 := Lib.hid hS1
  have HAT := Lib.hid hat
  have HFR := Lib.hid hfr
  clear hS0 hS1 hat hfr hb1 hll he hcs hgb hbl hbody hbs hn
  go_enter Try.func40, Try.ntmps40
  go_wp2_with fail
  have HKAT : Hid (∀ q : Kin w1, At8 q.at_ gb s.data.toList) := fun q => HAT.out.below q.below (by rw [hz1]; omega)
  refine wp_region_kin (by kernel_rfl) (by kernel_rfl) ?_
  repeat go_big_quiet_step ((go_at_call 118; first | (with_reducible exact kin_drew (HG4.out _ (HKAT.out _))) | (with_reducible exact kin_drew (HG6.out _ (HKAT.out _)))))
  refine wpQuiet_nil ?_
  intro q
  have hS2 := HS1.out.made q.below
  have hat2 := HKAT.out q
  have hfr6 : q.at_.frozen? ⟨gb, 6, none⟩ = false := by rw [q.below.frozen (by show gb < _; omega)]; exact HFR.out 6 (by omega)
  have hfr7 : q.at_.frozen? ⟨gb, 7, none⟩ = false := by rw [q.below.frozen (by show gb < _; omega)]; exact HFR.out 7 (by omega)
  have hgs : gb < q.at_.heap.size := by have := q.below.size; omega
  clear hcv hz1
  generalize q.at_ = w2 at hS2 hat2 hfr6 hfr7 hgs ⊢
  have HAT2 := Lib.hid hat2
  have HS2 := Lib.hid hS2
  clear hat2 hS2 HS1 HAT HFR HKAT
  have HKAT : Hid (∀ q : Kin w2, At8 q.at_ gb s.data.toList) := fun q => HAT2.out.below q.below hgs
  go_wp2_with fail
  refine wp_region_kin_alloc 15 11 33 zeroGram (by kernel_rfl) (by kernel_rfl) lay_gram ?_
  apply Exists.intro
  refine ⟨?_, ?_, ?_⟩
  · intro X hX hne v
    have HKX : Hid (∀ q : KinX w2 X, At8 q.at_ gb s.data.toList) := fun q => HAT2.out.below q.below hgs
    simp only [List.take_succ_cons, List.take_zero, Act.put, List.setIfInBounds_toArray, List.set_cons_zero, List.set_cons_succ]
    repeat go_big_quiet_step ((go_at_call 118; first | (with_reducible exact kinX_drew hX (HG0.out _ (HKX.out _))) | (with_reducible exact kinX_drew hX (HG2.out _ (HKX.out _)))))
    exact wpQuiet_nil (Eq.refl _)
  · exact fun _ _ => rfl
  intro gp w3 hb3 hp3 hK3
  simp only [List.drop_succ_cons, List.drop_zero]
  have hS3 := HS2.out.made hb3
  have hat3 := HAT2.out.below hb3 hgs
  have hf6 : w3.frozen? ⟨gb, 6, none⟩ = false := by rw [hb3.frozen hgs]; exact hfr6
  have hf7 : w3.frozen? ⟨gb, 7, none⟩ = false := by rw [hb3.frozen hgs]; exact hfr7
  have hgl : gb < gp := Nat.lt_of_lt_of_le hgs hp3
  have hgl' : gp ≠ gb := by omega
  have hgl2 : gb ≠ gp := by omega
  have hll := HLL.out
  obtain ⟨x6, c6⟩ : ∃ x : Int, w3.cell? ⟨gb, 6, none⟩ = some (.int .u8 x) := ⟨_, hat3.cell 6 (by omega)⟩
  obtain ⟨x7, c7⟩ : ∃ x : Int, w3.cell? ⟨gb, 7, none⟩ = some (.int .u8 x) := ⟨_, hat3.cell 7 (by omega)⟩
  obtain ⟨y0, y1, y2, y3, y4⟩ := gram_cells hK3
  have g0 := hK3.frozen 0
  have g1 := hK3.frozen 1
  have g2 := hK3.frozen 2
  have g3 := hK3.frozen 3
  have g4 := hK3.frozen 4
  have HS3 := Lib.hid hS3
  have HAT3 := Lib.hid hat3
  have HK3 := Lib.hid hK3
  have HB3 := Lib.hid hb3
  clear hS3 hat3 hK3 hb3 hfr6 hfr7 hll HKAT HAT2 HS2
  go_upto_region 7 with fail
  have hK4 : Blk (((((((w3.setCell ⟨gp, 0, none⟩ (Value.int IntKind.u32 src)).setCell ⟨gp, 1, none⟩ (Value.int IntKind.i64 ↑fp)).setCell ⟨gp, 2, none⟩ (Value.int IntKind.u32 dst)).setCell ⟨gp, 3, none⟩ (Value.int IntKind.i64 ↑tp)).setCell ⟨gp, 4, none⟩ (Value.string body)).setCell ⟨gb, 6, none⟩ (Value.int IntKind.u8 0)).setCell ⟨gb, 7, none⟩ (Value.int IntKind.u8 0)) gp 33 (gramC src fp dst tp body) := (((((((HK3.out.set_ 0 (Value.int IntKind.u32 src)).set_ 1 (Value.int IntKind.i64 ↑fp)).set_ 2 (Value.int IntKind.u32 dst)).set_ 3 (Value.int IntKind.i64 ↑tp)).set_ 4 (Value.string body)).far (p := ⟨gb, 6, none⟩) hgl' (Value.int IntKind.u8 0)).far (p := ⟨gb, 7, none⟩) hgl' (Value.int IntKind.u8 0))
  have hS4 : St w gb w.heap.size 33 zeroGram (((((((w3.setCell ⟨gp, 0, none⟩ (Value.int IntKind.u32 src)).setCell ⟨gp, 1, none⟩ (Value.int IntKind.i64 ↑fp)).setCell ⟨gp, 2, none⟩ (Value.int IntKind.u32 dst)).setCell ⟨gp, 3, none⟩ (Value.int IntKind.i64 ↑tp)).setCell ⟨gp, 4, none⟩ (Value.string body)).setCell ⟨gb, 6, none⟩ (Value.int IntKind.u8 0)).setCell ⟨gb, 7, none⟩ (Value.int IntKind.u8 0)) := (HS3.out.only (k := gp) (Nat.le_of_lt hgl) ((((((Only.refl (· = gp) w3).here (i := 0) (u := Value.int IntKind.u32 src)).here (i := 1) (u := Value.int IntKind.i64 ↑fp)).here (i := 2) (u := Value.int IntKind.u32 dst)).here (i := 3) (u := Value.int IntKind.i64 ↑tp)).here (i := 4) (u := Value.string body))).only (k := gb) (Nat.le_refl _) (((Only.refl (· = gb) _).here (i := 6) (u := .int .u8 0)).here (i := 7) (u := .int .u8 0))
  have hat4 : At8 (((((((w3.setCell ⟨gp, 0, none⟩ (Value.int IntKind.u32 src)).setCell ⟨gp, 1, none⟩ (Value.int IntKind.i64 ↑fp)).setCell ⟨gp, 2, none⟩ (Value.int IntKind.u32 dst)).setCell ⟨gp, 3, none⟩ (Value.int IntKind.i64 ↑tp)).setCell ⟨gp, 4, none⟩ (Value.string body)).setCell ⟨gb, 6, none⟩ (Value.int IntKind.u8 0)).setCell ⟨gb, 7, none⟩ (Value.int IntKind.u8 0)) gb (zero67 s.data.toList) := At8.zero (((((HAT3.out.far (p := ⟨gp, 0, none⟩) hgl' (Value.int IntKind.u32 src)).far (p := ⟨gp, 1, none⟩) hgl' (Value.int IntKind.i64 ↑fp)).far (p := ⟨gp, 2, none⟩) hgl' (Value.int IntKind.u32 dst)).far (p := ⟨gp, 3, none⟩) hgl' (Value.int IntKind.i64 ↑tp)).far (p := ⟨gp, 4, none⟩) hgl' (Value.string body)) (by have := HLL.out; omega)
  generalize (((((((w3.setCell ⟨gp, 0, none⟩ (Value.int IntKind.u32 src)).setCell ⟨gp, 1, none⟩ (Value.int IntKind.i64 ↑fp)).setCell ⟨gp, 2, none⟩ (Value.int IntKind.u32 dst)).setCell ⟨gp, 3, none⟩ (Value.int IntKind.i64 ↑tp)).setCell ⟨gp, 4, none⟩ (Value.string body)).setCell ⟨gb, 6, none⟩ (Value.int IntKind.u8 0)).setCell ⟨gb, 7, none⟩ (Value.int IntKind.u8 0)) = w4 at hK4 hS4 hat4 ⊢
  clear c6 c7 y0 y1 y2 y3 y4 g0 g1 g2 g3 g4 hf6 hf7 HK3 HB3 HS3 HAT3
  obtain ⟨y0, y1, y2, y3, y4⟩ := gram_cells hK4
  have hcz : Sem.run Try.prog (convert 123 9 (.slice (some ⟨gb, 0, none⟩) s.size c)) w4 = .ok (.string (bs (zero67 s.data.toList))) w4 :=
    conv_row _ _ _ _ _ hat4 (by have := HLL.out; simp [zero67]; omega)
  have HS4 := Lib.hid hS4
  have HK4 := Lib.hid hK4
  clear hK4 hS4 hat4
  obtain ⟨z0, z1, z2, z3, z4⟩ := gram_cells HS4.out.blk
  have f0 := HS4.out.blk.frozen 0
  have f1 := HS4.out.blk.frozen 1
  have f2 := HS4.out.blk.frozen 2
  have f3 := HS4.out.blk.frozen 3
  have f4 := HS4.out.blk.frozen 4
  rcases HCS.out with ⟨d1, rfl⟩ | ⟨d1, rfl⟩ | ⟨d1, d2, d3, rfl⟩ | ⟨d1, d2, d3, d4, rfl⟩ | ⟨d1, d2, d3, d4, hq⟩
  · go_wp2_with fail
    have hSf : St w gb w.heap.size 33 (zeroGram) (((((w4.setCell ⟨w.heap.size, 0, none⟩ (Value.int IntKind.u32 0)).setCell ⟨w.heap.size, 1, none⟩ (Value.int IntKind.i64 0)).setCell ⟨w.heap.size, 2, none⟩ (Value.int IntKind.u32 0)).setCell ⟨w.heap.size, 3, none⟩ (Value.int IntKind.i64 0)).setCell ⟨w.heap.size, 4, none⟩ (Value.string ⟨#[]⟩)) := (((((HS4.out.write 0 (Value.int IntKind.u32 0)).write 1 (Value.int IntKind.i64 0)).write 2 (Value.int IntKind.u32 0)).write 3 (Value.int IntKind.i64 0)).write 4 (Value.string ⟨#[]⟩))
    generalize (((((w4.setCell ⟨w.heap.size, 0, none⟩ (Value.int IntKind.u32 0)).setCell ⟨w.heap.size, 1, none⟩ (Value.int IntKind.i64 0)).setCell ⟨w.heap.size, 2, none⟩ (Value.int IntKind.u32 0)).setCell ⟨w.heap.size, 3, none⟩ (Value.int IntKind.i64 0)).setCell ⟨w.heap.size, 4, none⟩ (Value.string ⟨#[]⟩)) = wf at hSf ⊢
    clear z0 z1 z2 z3 z4 f0 f1 f2 f3 f4
    obtain ⟨z0, z1, z2, z3, z4⟩ := gram_cells hSf.blk
    have HSf := Lib.hid hSf
    clear hSf
    exact bodyPost_ret (v := .tuple #[.agg (zeroGram).toArray, .int .i64 3]) (by simp [results, Try.results40, go_sem, z0, z1, z2, z3, z4, gramC, zeroGram]) rfl ⟨rfl, HSf.out.bel⟩
  · go_wp2_with fail
    have hSf : St w gb w.heap.size 33 (zeroGram) (((((w4.setCell ⟨w.heap.size, 0, none⟩ (Value.int IntKind.u32 0)).setCell ⟨w.heap.size, 1, none⟩ (Value.int IntKind.i64 0)).setCell ⟨w.heap.size, 2, none⟩ (Value.int IntKind.u32 0)).setCell ⟨w.heap.size, 3, none⟩ (Value.int IntKind.i64 0)).setCell ⟨w.heap.size, 4, none⟩ (Value.string ⟨#[]⟩)) := (((((HS4.out.write 0 (Value.int IntKind.u32 0)).write 1 (Value.int IntKind.i64 0)).write 2 (Value.int IntKind.u32 0)).write 3 (Value.int IntKind.i64 0)).write 4 (Value.string ⟨#[]⟩))
    generalize (((((w4.setCell ⟨w.heap.size, 0, none⟩ (Value.int IntKind.u32 0)).setCell ⟨w.heap.size, 1, none⟩ (Value.int IntKind.i64 0)).setCell ⟨w.heap.size, 2, none⟩ (Value.int IntKind.u32 0)).setCell ⟨w.heap.size, 3, none⟩ (Value.int IntKind.i64 0)).setCell ⟨w.heap.size, 4, none⟩ (Value.string ⟨#[]⟩)) = wf at hSf ⊢
    clear z0 z1 z2 z3 z4 f0 f1 f2 f3 f4
    obtain ⟨z0, z1, z2, z3, z4⟩ := gram_cells hSf.blk
    have HSf := Lib.hid hSf
    clear hSf
    exact bodyPost_ret (v := .tuple #[.agg (zeroGram).toArray, .int .i64 4]) (by simp [results, Try.results40, go_sem, z0, z1, z2, z3, z4, gramC, zeroGram]) rfl ⟨rfl, HSf.out.bel⟩
  · go_wp2_with fail
    have hSf : St w gb w.heap.size 33 (zeroGram) (((((w4.setCell ⟨w.heap.size, 0, none⟩ (Value.int IntKind.u32 0)).setCell ⟨w.heap.size, 1, none⟩ (Value.int IntKind.i64 0)).setCell ⟨w.heap.size, 2, none⟩ (Value.int IntKind.u32 0)).setCell ⟨w.heap.size, 3, none⟩ (Value.int IntKind.i64 0)).setCell ⟨w.heap.size, 4, none⟩ (Value.string ⟨#[]⟩)) := (((((HS4.out.write 0 (Value.int IntKind.u32 0)).write 1 (Value.int IntKind.i64 0)).write 2 (Value.int IntKind.u32 0)).write 3 (Value.int IntKind.i64 0)).write 4 (Value.string ⟨#[]⟩))
    generalize (((((w4.setCell ⟨w.heap.size, 0, none⟩ (Value.int IntKind.u32 0)).setCell ⟨w.heap.size, 1, none⟩ (Value.int IntKind.i64 0)).setCell ⟨w.heap.size, 2, none⟩ (Value.int IntKind.u32 0)).setCell ⟨w.heap.size, 3, none⟩ (Value.int IntKind.i64 0)).setCell ⟨w.heap.size, 4, none⟩ (Value.string ⟨#[]⟩)) = wf at hSf ⊢
    clear z0 z1 z2 z3 z4 f0 f1 f2 f3 f4
    obtain ⟨z0, z1, z2, z3, z4⟩ := gram_cells hSf.blk
    have HSf := Lib.hid hSf
    clear hSf
    exact bodyPost_ret (v := .tuple #[.agg (zeroGram).toArray, .int .i64 4]) (by simp [results, Try.results40, go_sem, z0, z1, z2, z3, z4, gramC, zeroGram]) rfl ⟨rfl, HSf.out.bel⟩
  · skip
    go_wp2_with fail
    refine (HCHK.out _).mono ?_
    rintro e w5 ⟨rfl, hb5⟩
    have HS5 := Lib.hid (HS4.out.made hb5)
    have hK5 := HK4.out.below hb5 HK4.out.lt
    clear y0 y1 y2 y3 y4
    obtain ⟨y0, y1, y2, y3, y4⟩ := gram_cells hK5
    have HK5 := Lib.hid hK5
    clear hb5 hK5 hcz
    clear z0 z1 z2 z3 z4 f0 f1 f2 f3 f4
    obtain ⟨z0, z1, z2, z3, z4⟩ := gram_cells HS5.out.blk
    have f0 := HS5.out.blk.frozen 0
    have f1 := HS5.out.blk.frozen 1
    have f2 := HS5.out.blk.frozen 2
    have f3 := HS5.out.blk.frozen 3
    have f4 := HS5.out.blk.frozen 4
    go_wp2_with fail
    have hSf : St w gb w.heap.size 33 (zeroGram) (((((w5.setCell ⟨w.heap.size, 0, none⟩ (Value.int IntKind.u32 0)).setCell ⟨w.heap.size, 1, none⟩ (Value.int IntKind.i64 0)).setCell ⟨w.heap.size, 2, none⟩ (Value.int IntKind.u32 0)).setCell ⟨w.heap.size, 3, none⟩ (Value.int IntKind.i64 0)).setCell ⟨w.heap.size, 4, none⟩ (Value.string ⟨#[]⟩)) := (((((HS5.out.write 0 (Value.int IntKind.u32 0)).write 1 (Value.int IntKind.i64 0)).write 2 (Value.int IntKind.u32 0)).write 3 (Value.int IntKind.i64 0)).write 4 (Value.string ⟨#[]⟩))
    generalize (((((w5.setCell ⟨w.heap.size, 0, none⟩ (Value.int IntKind.u32 0)).setCell ⟨w.heap.size, 1, none⟩ (Value.int IntKind.i64 0)).setCell ⟨w.heap.size, 2, none⟩ (Value.int IntKind.u32 0)).setCell ⟨w.heap.size, 3, none⟩ (Value.int IntKind.i64 0)).setCell ⟨w.heap.size, 4, none⟩ (Value.string ⟨#[]⟩)) = wf at hSf ⊢
    clear z0 z1 z2 z3 z4 f0 f1 f2 f3 f4
    obtain ⟨z0, z1, z2, z3, z4⟩ := gram_cells hSf.blk
    have HSf := Lib.hid hSf
    clear hSf
    exact bodyPost_ret (v := .tuple #[.agg (zeroGram).toArray, .int .i64 5]) (by simp [results, Try.results40, go_sem, z0, z1, z2, z3, z4, gramC, zeroGram]) rfl ⟨rfl, HSf.out.bel⟩
  · have hUC := HUC.out
    rw [hq] at hUC
    have HU := Lib.hid hUC
    have he3 : er = 0 ∨ er = 1 ∨ er = 2 := by
      rw [← hq]
      unfold udpChk
      split
      · exact .inr (.inl rfl)
      · split
        · exact .inr (.inr rfl)
        · exact .inl rfl
    clear hUC hq
    go_wp2_with fail
    refine (HCHK.out _).mono ?_
    rintro e w5 ⟨rfl, hb5⟩
    have HS5 := Lib.hid (HS4.out.made hb5)
    have hK5 := HK4.out.below hb5 HK4.out.lt
    clear y0 y1 y2 y3 y4
    obtain ⟨y0, y1, y2, y3, y4⟩ := gram_cells hK5
    have HK5 := Lib.hid hK5
    clear hb5 hK5 hcz
    clear z0 z1 z2 z3 z4 f0 f1 f2 f3 f4
    obtain ⟨z0, z1, z2, z3, z4⟩ := gram_cells HS5.out.blk
    have f0 := HS5.out.blk.frozen 0
    have f1 := HS5.out.blk.frozen 1
    have f2 := HS5.out.blk.frozen 2
    have f3 := HS5.out.blk.frozen 3
    have f4 := HS5.out.blk.frozen 4
    go_wp2_with fail
    refine (HU.out _).mono ?_
    rintro e w6 ⟨rfl, hb6⟩
    have HS6 := Lib.hid (HS5.out.made hb6)
    have hK6 := HK5.out.below hb6 HK5.out.lt
    clear y0 y1 y2 y3 y4
    obtain ⟨y0, y1, y2, y3, y4⟩ := gram_cells hK6
    have HK6 := Lib.hid hK6
    clear hb6 hK6
    clear z0 z1 z2 z3 z4 f0 f1 f2 f3 f4
    obtain ⟨z0, z1, z2, z3, z4⟩ := gram_cells HS6.out.blk
    have f0 := HS6.out.blk.frozen 0
    have f1 := HS6.out.blk.frozen 1
    have f2 := HS6.out.blk.frozen 2
    have f3 := HS6.out.blk.frozen 3
    have f4 := HS6.out.blk.frozen 4
    rcases he3 with rfl | rfl | rfl
    · go_wp2_with fail
      have hSf : St w gb w.heap.size 33 (gramC src fp dst tp body) (((((w6.setCell ⟨w.heap.size, 0, none⟩ (Value.int IntKind.u32 src)).setCell ⟨w.heap.size, 1, none⟩ (Value.int IntKind.i64 ↑fp)).setCell ⟨w.heap.size, 2, none⟩ (Value.int IntKind.u32 dst)).setCell ⟨w.heap.size, 3, none⟩ (Value.int IntKind.i64 ↑tp)).setCell ⟨w.heap.size, 4, none⟩ (Value.string body)) := (((((HS6.out.write 0 (Value.int IntKind.u32 src)).write 1 (Value.int IntKind.i64 ↑fp)).write 2 (Value.int IntKind.u32 dst)).write 3 (Value.int IntKind.i64 ↑tp)).write 4 (Value.string body))
      generalize (((((w6.setCell ⟨w.heap.size, 0, none⟩ (Value.int IntKind.u32 src)).setCell ⟨w.heap.size, 1, none⟩ (Value.int IntKind.i64 ↑fp)).setCell ⟨w.heap.size, 2, none⟩ (Value.int IntKind.u32 dst)).setCell ⟨w.heap.size, 3, none⟩ (Value.int IntKind.i64 ↑tp)).setCell ⟨w.heap.size, 4, none⟩ (Value.string body)) = wf at hSf ⊢
      clear z0 z1 z2 z3 z4 f0 f1 f2 f3 f4
      obtain ⟨z0, z1, z2, z3, z4⟩ := gram_cells hSf.blk
      have HSf := Lib.hid hSf
      clear hSf
      exact bodyPost_ret (v := .tuple #[.agg (gramC src fp dst tp body).toArray, .int .i64 0]) (by simp [results, Try.results40, go_sem, z0, z1, z2, z3, z4, gramC]) rfl ⟨rfl, HSf.out.bel⟩
    · go_wp2_with fail
      have hSf : St w gb w.heap.size 33 (zeroGram) (((((w6.setCell ⟨w.heap.size, 0, none⟩ (Value.int IntKind.u32 0)).setCell ⟨w.heap.size, 1, none⟩ (Value.int IntKind.i64 0)).setCell ⟨w.heap.size, 2, none⟩ (Value.int IntKind.u32 0)).setCell ⟨w.heap.size, 3, none⟩ (Value.int IntKind.i64 0)).setCell ⟨w.heap.size, 4, none⟩ (Value.string ⟨#[]⟩)) := (((((HS6.out.write 0 (Value.int IntKind.u32 0)).write 1 (Value.int IntKind.i64 0)).write 2 (Value.int IntKind.u32 0)).write 3 (Value.int IntKind.i64 0)).write 4 (Value.string ⟨#[]⟩))
      generalize (((((w6.setCell ⟨w.heap.size, 0, none⟩ (Value.int IntKind.u32 0)).setCell ⟨w.heap.size, 1, none⟩ (Value.int IntKind.i64 0)).setCell ⟨w.heap.size, 2, none⟩ (Value.int IntKind.u32 0)).setCell ⟨w.heap.size, 3, none⟩ (Value.int IntKind.i64 0)).setCell ⟨w.heap.size, 4, none⟩ (Value.string ⟨#[]⟩)) = wf at hSf ⊢
      clear z0 z1 z2 z3 z4 f0 f1 f2 f3 f4
      obtain ⟨z0, z1, z2, z3, z4⟩ := gram_cells hSf.blk
      have HSf := Lib.hid hSf
      clear hSf
      exact bodyPost_ret (v := .tuple #[.agg (zeroGram).toArray, .int .i64 1]) (by simp [results, Try.results40, go_sem, z0, z1, z2, z3, z4, gramC, zeroGram]) rfl ⟨rfl, HSf.out.bel⟩
    · go_wp2_with fail
      have hSf : St w gb w.heap.size 33 (zeroGram) (((((w6.setCell ⟨w.heap.size, 0, none⟩ (Value.int IntKind.u32 0)).setCell ⟨w.heap.size, 1, none⟩ (Value.int IntKind.i64 0)).setCell ⟨w.heap.size, 2, none⟩ (Value.int IntKind.u32 0)).setCell ⟨w.heap.size, 3, none⟩ (Value.int IntKind.i64 0)).setCell ⟨w.heap.size, 4, none⟩ (Value.string ⟨#[]⟩)) := (((((HS6.out.write 0 (Value.int IntKind.u32 0)).write 1 (Value.int IntKind.i64 0)).write 2 (Value.int IntKind.u32 0)).write 3 (Value.int IntKind.i64 0)).write 4 (Value.string ⟨#[]⟩))
      generalize (((((w6.setCell ⟨w.heap.size, 0, none⟩ (Value.int IntKind.u32 0)).setCell ⟨w.heap.size, 1, none⟩ (Value.int IntKind.i64 0)).setCell ⟨w.heap.size, 2, none⟩ (Value.int IntKind.u32 0)).setCell ⟨w.heap.size, 3, none⟩ (Value.int IntKind.i64 0)).setCell ⟨w.heap.size, 4, none⟩ (Value.string ⟨#[]⟩)) = wf at hSf ⊢
      clear z0 z1 z2 z3 z4 f0 f1 f2 f3 f4
      obtain ⟨z0, z1, z2, z3, z4⟩ := gram_cells hSf.blk
      have HSf := Lib.hid hSf
      clear hSf
      exact bodyPost_ret (v := .tuple #[.agg (zeroGram).toArray, .int .i64 2]) (by simp [results, Try.results40, go_sem, z0, z1, z2, z3, z4, gramC, zeroGram]) rfl ⟨rfl, HSf.out.bel⟩
end Go.Proofs.Ytmbjinfeinhalaa
