/- Package ip: Read. -/
import Derived.Test.YthjigajielhkfaaIpRd0
namespace Go.Proofs.Ythjigajielhkfaa
open Go.RowKit
set_option linter.unusedVariables false
set_option linter.unusedSimpArgs false

set_option maxRecDepth 100000 in
set_option maxHeartbeats 4000000 in
theorem ip_Read_any (s : ByteArray) (h : List UInt8) (hh : h = s.data.toList.take 20) (w : World) (hs : s.size ≤ 140737488351232) (h20 : 20 ≤ s.size) (er : Int)
    (he : ipErrN (byteAt h 0) (byteAt h 1) (numL ((h.drop 6).take 2)) (numL ((h.drop 2).take 2)) (numL ((h.drop 10).take 2)) s.size (fitN h) (ipChk (byteAt h 9) (byteAt h 8) (numL ((h.drop 4).take 2)) ((numL ((h.drop 6).take 2) % 8192 : Nat) : Int) (s.size - 20)) = er) :
    Calls Try.prog 15 #[.string s] w fun e w' =>
      e = .returned (.tuple #[.agg (if er = 0 then pktC (numL ((h.drop 12).take 4)) (numL ((h.drop 16).take 4)) (byteAt h 9) (byteAt h 8) (numL ((h.drop 4).take 2)) (dontB (numL ((h.drop 6).take 2))) (moreB (numL ((h.drop 6).take 2))) ((numL ((h.drop 6).take 2) % 8192 : Nat) : Int) (s.extract 20 s.size) else zeroPkt).toArray, .int .i64 er]) ∧ Below w.heap.size w w' := by
  obtain ⟨hd, hhd⟩ : ∃ hd, hd = s.extract 0 20 := ⟨_, rfl⟩
  have hdz : hd.size = 20 := by rw [hhd]; simp; omega
  have hdl : hd.data.toList = h := by rw [hhd, hh, Lib.extract_data]; simp
  have hsh : ∀ W, (Instr.slice 9 (.string s) none (some (.int .i64 20)) none).run Try.prog W = .ok (.string hd) W := fun W => by rw [hhd]; exact run_str_to s 20 h20 W
  obtain ⟨c, w1, hcv, hc, hb1, hz1, hat, hfr⟩ := bytes_of hd (w.alloc (.cells #[.int .u32 0, .int .u32 0, .int .i64 0, .int .i64 0, .int .i64 0, .bool false, .bool false, .int .i64 0, .string ⟨#[]⟩] 24))
  have hS0 := St.start w 24 zeroPkt
  change St _ _ _ _ _ (w.alloc (Obj.cells #[.int .u32 0, .int .u32 0, .int .i64 0, .int .i64 0, .int .i64 0, .bool false, .bool false, .int .i64 0, .string ⟨#[]⟩] 24)) at hS0
  have hS1 := hS0.made hb1
  simp only [World.size_alloc] at hcv hz1 hat hfr
  rw [hdz] at hcv hc
  rw [hdl] at hat
  clear hfr hh
  have hhl : h.length = 20 := by rw [← hdl, ← Lib.size_eq]; exact hdz
  obtain ⟨body, hbody⟩ : ∃ body, body = s.extract 20 s.size := ⟨_, rfl⟩
  have hbs : body.size = s.size - 20 := by rw [hbody]; simp
  have hsl : ∀ W, (Instr.slice 9 (.string s) (some (.int .i64 20)) none none).run Try.prog W = .ok (.string body) W := fun W => by rw [hbody]; exact run_str_from s 20 h20 W
  rw [← hbody]
  rw [← hbs] at he
  generalize hgb : w.heap.size + 1 = gb at hcv hz1 hat hS1
  have hsg : ∀ (k : Nat), k < 20 → ∀ W, (Instr.slice 156 (.slice (some ⟨gb, 0, none⟩) 20 c) (some (.int .i64 (k : Int))) none none).run Try.prog W = .ok (.slice (some ⟨gb, k, none⟩) (20 - k) (c - k)) W := fun k hk W => by
    have := run_from8 gb 0 20 c k (by omega) (by omega) W
    simpa using this
  have hs2 : ∀ W, (Instr.slice 156 (.slice (some ⟨gb, 0, none⟩) 20 c) (some (.int .i64 2)) none none).run Try.prog W = .ok (.slice (some ⟨gb, 2, none⟩) 18 (c - 2)) W := hsg 2 (by omega)
  have hs4 : ∀ W, (Instr.slice 156 (.slice (some ⟨gb, 0, none⟩) 20 c) (some (.int .i64 4)) none none).run Try.prog W = .ok (.slice (some ⟨gb, 4, none⟩) 16 (c - 4)) W := hsg 4 (by omega)
  have hs6 : ∀ W, (Instr.slice 156 (.slice (some ⟨gb, 0, none⟩) 20 c) (some (.int .i64 6)) none none).run Try.prog W = .ok (.slice (some ⟨gb, 6, none⟩) 14 (c - 6)) W := hsg 6 (by omega)
  have hs12 : ∀ W, (Instr.slice 156 (.slice (some ⟨gb, 0, none⟩) 20 c) (some (.int .i64 12)) none none).run Try.prog W = .ok (.slice (some ⟨gb, 12, none⟩) 8 (c - 12)) W := hsg 12 (by omega)
  have hs16 : ∀ W, (Instr.slice 156 (.slice (some ⟨gb, 0, none⟩) 20 c) (some (.int .i64 16)) none none).run Try.prog W = .ok (.slice (some ⟨gb, 16, none⟩) 4 (c - 16)) W := hsg 16 (by omega)
  clear hsg
  have HG2 := Lib.hid (fun (W : World) (k : At8 W gb h) => wire_Get16 gb 2 18 (c - 2) h W k (by omega) (by omega))
  have HG4 := Lib.hid (fun (W : World) (k : At8 W gb h) => wire_Get16 gb 4 16 (c - 4) h W k (by omega) (by omega))
  have HG6 := Lib.hid (fun (W : World) (k : At8 W gb h) => wire_Get16 gb 6 14 (c - 6) h W k (by omega) (by omega))
  have HG12 := Lib.hid (fun (W : World) (k : At8 W gb h) => wire_Get32 gb 12 8 (c - 12) h W k (by omega) (by omega) (by omega))
  have HG16 := Lib.hid (fun (W : World) (k : At8 W gb h) => wire_Get32 gb 16 4 (c - 16) h W k (by omega) (by omega) (by omega))
  have HFT := Lib.hid (fun (W : World) (k : At8 W gb h) (k2 : gb < W.heap.size) => ip_fits gb c h W k (by omega) (by omega) k2)
  have hn : ∀ i, numL ((h.drop i).take 2) ≤ 65535 := fun i => by
    have := numL_le (l := (h.drop i).take 2) (k := 2) (by simp; omega)
    omega
  have hn4 : ∀ i, numL ((h.drop i).take 4) ≤ 4294967295 := fun i => by
    have := numL_le (l := (h.drop i).take 4) (k := 4) (by simp; omega)
    omega
  have b2 := hn 2
  have b4 := hn 4
  have b6 := hn 6
  have b10 := hn 10
  have b12 := hn4 12
  have b16 := hn4 16
  have y0 := byteAt_le h 0
  have y1 := byteAt_le h 1
  have y8 := byteAt_le h 8
  have y9 := byteAt_le h 9
  have hbt : ∀ W, At8 W gb h → W.cell? ⟨gb, 0, none⟩ = some (.int .u8 (byteAt h 0 : Int)) ∧ W.cell? ⟨gb, 1, none⟩ = some (.int .u8 (byteAt h 1 : Int)) ∧ W.cell? ⟨gb, 8, none⟩ = some (.int .u8 (byteAt h 8 : Int)) ∧ W.cell? ⟨gb, 9, none⟩ = some (.int .u8 (byteAt h 9 : Int)) :=
    fun W k => ⟨k.byte 0 (by omega), k.byte 1 (by omega), k.byte 8 (by omega), k.byte 9 (by omega)⟩
  have HBT := Lib.hid hbt
  clear hbt
  have e13 := dont_bit _ b6
  have e14 := more_bit _ b6
  have e15 := i64_low13 _ b6
  generalize byteAt h 0 = x0 at y0 HBT he
  generalize byteAt h 1 = x1 at y1 HBT he
  generalize byteAt h 8 = ttl at y8 HBT he ⊢
  generalize byteAt h 9 = proto at y9 HBT he ⊢
  generalize fitN h = ck at HFT he
  generalize numL ((h.drop 2).take 2) = all at HG2 b2 he
  generalize numL ((h.drop 4).take 2) = id at HG4 b4 he ⊢
  generalize numL ((h.drop 6).take 2) = fl at HG6 b6 he e13 e14 e15 ⊢
  generalize numL ((h.drop 10).take 2) = told at HFT b10 he
  generalize numL ((h.drop 12).take 4) = src at HG12 b12 ⊢
  generalize numL ((h.drop 16).take 4) = dst at HG16 b16 ⊢
  have boff : fl % 8192 ≤ 8191 := by omega
  generalize fl % 8192 = off at e15 he boff ⊢
  generalize dontB fl = dont at e13 ⊢
  generalize moreB fl = more at e14 ⊢
  have hbz : body.size ≤ 140737488351232 := by omega
  have HUC := Lib.hid (fun W => ip_Check src dst proto ttl id dont more off body W (by omega))
  have hcs := ip_cases he
  have b60 : 0 ≤ (fl : Int) := by omega
  have b61 : (fl : Int) ≤ 65535 := by omega
  clear b6
  generalize (fl : Int) = F at HG6 e13 e14 e15 hcs b60 b61
  have HCS := Lib.hid hcs
  have HGB := Lib.hid hgb
  have HHL := Lib.hid hhl
  have HS1 := Lib.hid hS1
  have HAT := Lib.hid hat
  have HBS := Lib.hid hbs
  clear hS0 hS1 hat hb1 he hcs hgb hbody hbs hn hn4 hhl hdl hhd hdz
  go_enter Try.func15, Try.ntmps15
  go_wp2_with fail
  have HKAT : Hid (∀ q : Kin w1, At8 q.at_ gb h) := fun q => HAT.out.below q.below (by rw [hz1]; omega)
  refine wp_region_kin (by kernel_rfl) (by kernel_rfl) ?_
  repeat go_big_quiet_step ((go_at_call 120; first | (with_reducible exact kin_drew (HG2.out _ (HKAT.out _))) | (with_reducible exact kin_drew (HG6.out _ (HKAT.out _)))))
  refine wpQuiet_nil ?_
  intro q
  have hS2 := HS1.out.made q.below
  have hat2 := HKAT.out q
  have hgs : gb < q.at_.heap.size := by have := q.below.size; omega
  clear hcv hz1 hsh
  generalize q.at_ = w2 at hS2 hat2 hgs ⊢
  have HAT2 := Lib.hid hat2
  have HS2 := Lib.hid hS2
  have hbt2 := HBT.out w2 hat2
  have HR8 := Lib.hid hbt2.2.2.1
  have HR9 := Lib.hid hbt2.2.2.2
  clear hat2 hS2 HS1 HAT HKAT hbt2
  go_wp2_with fail
  refine wp_region_kin_alloc 30 7 24 zeroPkt (by kernel_rfl) (by kernel_rfl) lay_pkt ?_
  apply Exists.intro
  refine ⟨?_, ?_, ?_⟩
  · intro X hX hne v
    have HKX : Hid (∀ q : KinX w2 X, At8 q.at_ gb h) := fun q => HAT2.out.below q.below hgs
    have q8 := KinX.cell (X := X) HR8.out
    have q9 := KinX.cell (X := X) HR9.out
    simp only [List.take_succ_cons, List.take_zero, Act.put, List.setIfInBounds_toArray, List.set_cons_zero, List.set_cons_succ]
    repeat go_big_quiet_step (first | (go_at_call 120; with_reducible exact kinX_drew hX (HG4.out _ (HKX.out _))) | (go_at_call 121; first | (with_reducible exact kinX_drew hX (HG12.out _ (HKX.out _))) | (with_reducible exact kinX_drew hX (HG16.out _ (HKX.out _)))))
    exact wpQuiet_nil (Eq.refl _)
  · exact fun _ _ => rfl
  intro gp w3 hb3 hp3 hK3
  simp only [List.drop_succ_cons, List.drop_zero]
  have hS3 := HS2.out.made hb3
  have hat3 := HAT2.out.below hb3 hgs
  have hgl : gb < gp := Nat.lt_of_lt_of_le hgs hp3
  have hgl' : gp ≠ gb := by omega
  have hgs3 : gb < w3.heap.size := Nat.lt_of_lt_of_le hgl (Nat.le_of_lt hK3.lt)
  obtain ⟨y0, y1, y2, y3, y4, y5, y6, y7, y8⟩ := pkt_cells hK3
  have g0 := hK3.frozen 0
  have g1 := hK3.frozen 1
  have g2 := hK3.frozen 2
  have g3 := hK3.frozen 3
  have g4 := hK3.frozen 4
  have g5 := hK3.frozen 5
  have g6 := hK3.frozen 6
  have g7 := hK3.frozen 7
  have g8 := hK3.frozen 8
  have HS3 := Lib.hid hS3
  have HAT3 := Lib.hid hat3
  have HK3 := Lib.hid hK3
  clear hS3 hat3 hK3 hb3 HAT2 HS2
  go_upto_region 6 with fail
  have hK4 : Blk (((((((((w3.setCell ⟨gp, 0, none⟩ (Value.int IntKind.u32 ↑src)).setCell ⟨gp, 1, none⟩ (Value.int IntKind.u32 ↑dst)).setCell ⟨gp, 2, none⟩ (Value.int IntKind.i64 ↑proto)).setCell ⟨gp, 3, none⟩ (Value.int IntKind.i64 ↑ttl)).setCell ⟨gp, 4, none⟩ (Value.int IntKind.i64 ↑id)).setCell ⟨gp, 5, none⟩ (Value.bool dont)).setCell ⟨gp, 6, none⟩ (Value.bool more)).setCell ⟨gp, 7, none⟩ (Value.int IntKind.i64 ↑off)).setCell ⟨gp, 8, none⟩ (Value.string body)) gp 24 (pktC src dst proto ttl id dont more off body) := (((((((((HK3.out.set_ 0 (Value.int IntKind.u32 ↑src)).set_ 1 (Value.int IntKind.u32 ↑dst)).set_ 2 (Value.int IntKind.i64 ↑proto)).set_ 3 (Value.int IntKind.i64 ↑ttl)).set_ 4 (Value.int IntKind.i64 ↑id)).set_ 5 (Value.bool dont)).set_ 6 (Value.bool more)).set_ 7 (Value.int IntKind.i64 ↑off)).set_ 8 (Value.string body))
  have hS4 : St w gb w.heap.size 24 zeroPkt (((((((((w3.setCell ⟨gp, 0, none⟩ (Value.int IntKind.u32 ↑src)).setCell ⟨gp, 1, none⟩ (Value.int IntKind.u32 ↑dst)).setCell ⟨gp, 2, none⟩ (Value.int IntKind.i64 ↑proto)).setCell ⟨gp, 3, none⟩ (Value.int IntKind.i64 ↑ttl)).setCell ⟨gp, 4, none⟩ (Value.int IntKind.i64 ↑id)).setCell ⟨gp, 5, none⟩ (Value.bool dont)).setCell ⟨gp, 6, none⟩ (Value.bool more)).setCell ⟨gp, 7, none⟩ (Value.int IntKind.i64 ↑off)).setCell ⟨gp, 8, none⟩ (Value.string body)) := HS3.out.only (k := gp) (Nat.le_of_lt hgl) ((((((((((Only.refl (· = gp) w3).here (i := 0) (u := Value.int IntKind.u32 ↑src)).here (i := 1) (u := Value.int IntKind.u32 ↑dst)).here (i := 2) (u := Value.int IntKind.i64 ↑proto)).here (i := 3) (u := Value.int IntKind.i64 ↑ttl)).here (i := 4) (u := Value.int IntKind.i64 ↑id)).here (i := 5) (u := Value.bool dont)).here (i := 6) (u := Value.bool more)).here (i := 7) (u := Value.int IntKind.i64 ↑off)).here (i := 8) (u := Value.string body))
  have hat4 : At8 (((((((((w3.setCell ⟨gp, 0, none⟩ (Value.int IntKind.u32 ↑src)).setCell ⟨gp, 1, none⟩ (Value.int IntKind.u32 ↑dst)).setCell ⟨gp, 2, none⟩ (Value.int IntKind.i64 ↑proto)).setCell ⟨gp, 3, none⟩ (Value.int IntKind.i64 ↑ttl)).setCell ⟨gp, 4, none⟩ (Value.int IntKind.i64 ↑id)).setCell ⟨gp, 5, none⟩ (Value.bool dont)).setCell ⟨gp, 6, none⟩ (Value.bool more)).setCell ⟨gp, 7, none⟩ (Value.int IntKind.i64 ↑off)).setCell ⟨gp, 8, none⟩ (Value.string body)) gb h := (((((((((HAT3.out.far (p := ⟨gp, 0, none⟩) hgl' (Value.int IntKind.u32 ↑src)).far (p := ⟨gp, 1, none⟩) hgl' (Value.int IntKind.u32 ↑dst)).far (p := ⟨gp, 2, none⟩) hgl' (Value.int IntKind.i64 ↑proto)).far (p := ⟨gp, 3, none⟩) hgl' (Value.int IntKind.i64 ↑ttl)).far (p := ⟨gp, 4, none⟩) hgl' (Value.int IntKind.i64 ↑id)).far (p := ⟨gp, 5, none⟩) hgl' (Value.bool dont)).far (p := ⟨gp, 6, none⟩) hgl' (Value.bool more)).far (p := ⟨gp, 7, none⟩) hgl' (Value.int IntKind.i64 ↑off)).far (p := ⟨gp, 8, none⟩) hgl' (Value.string body))
  have hgs4 : gb < (((((((((w3.setCell ⟨gp, 0, none⟩ (Value.int IntKind.u32 ↑src)).setCell ⟨gp, 1, none⟩ (Value.int IntKind.u32 ↑dst)).setCell ⟨gp, 2, none⟩ (Value.int IntKind.i64 ↑proto)).setCell ⟨gp, 3, none⟩ (Value.int IntKind.i64 ↑ttl)).setCell ⟨gp, 4, none⟩ (Value.int IntKind.i64 ↑id)).setCell ⟨gp, 5, none⟩ (Value.bool dont)).setCell ⟨gp, 6, none⟩ (Value.bool more)).setCell ⟨gp, 7, none⟩ (Value.int IntKind.i64 ↑off)).setCell ⟨gp, 8, none⟩ (Value.string body)).heap.size := by simpa using hgs3
  generalize (((((((((w3.setCell ⟨gp, 0, none⟩ (Value.int IntKind.u32 ↑src)).setCell ⟨gp, 1, none⟩ (Value.int IntKind.u32 ↑dst)).setCell ⟨gp, 2, none⟩ (Value.int IntKind.i64 ↑proto)).setCell ⟨gp, 3, none⟩ (Value.int IntKind.i64 ↑ttl)).setCell ⟨gp, 4, none⟩ (Value.int IntKind.i64 ↑id)).setCell ⟨gp, 5, none⟩ (Value.bool dont)).setCell ⟨gp, 6, none⟩ (Value.bool more)).setCell ⟨gp, 7, none⟩ (Value.int IntKind.i64 ↑off)).setCell ⟨gp, 8, none⟩ (Value.string body)) = w4 at hK4 hS4 hat4 hgs4 ⊢
  clear y0 y1 y2 y3 y4 y5 y6 y7 y8 g0 g1 g2 g3 g4 g5 g6 g7 g8 HK3 HS3 HAT3
  obtain ⟨y0, y1, y2, y3, y4, y5, y6, y7, y8⟩ := pkt_cells hK4
  have hbt4 := HBT.out w4 hat4
  have r0 := hbt4.1
  have r1 := hbt4.2.1
  have HS4 := Lib.hid hS4
  have HK4 := Lib.hid hK4
  have HAT4 := Lib.hid hat4
  clear hK4 hS4 hat4 hbt4
  obtain ⟨z0, z1, z2, z3, z4, z5, z6, z7, z8⟩ := pkt_cells HS4.out.blk
  have f0 := HS4.out.blk.frozen 0
  have f1 := HS4.out.blk.frozen 1
  have f2 := HS4.out.blk.frozen 2
  have f3 := HS4.out.blk.frozen 3
  have f4 := HS4.out.blk.frozen 4
  have f5 := HS4.out.blk.frozen 5
  have f6 := HS4.out.blk.frozen 6
  have f7 := HS4.out.blk.frozen 7
  have f8 := HS4.out.blk.frozen 8
  rcases HCS.out with ⟨d1, rfl⟩ | ⟨rfl, d2, rfl⟩ | ⟨rfl, rfl, d3, rfl⟩ | ⟨rfl, rfl, d3, d4, rfl⟩ | ⟨rfl, rfl, d3, d4, rfl⟩ | ⟨rfl, rfl, d3, d4, d5, d6, rfl⟩ | ⟨rfl, rfl, d3, d4, d5, d6, hq⟩
  · go_wp2_with fail
    have hSf : St w gb w.heap.size 24 (zeroPkt) (((((((((w4.setCell ⟨w.heap.size, 0, none⟩ (Value.int IntKind.u32 0)).setCell ⟨w.heap.size, 1, none⟩ (Value.int IntKind.u32 0)).setCell ⟨w.heap.size, 2, none⟩ (Value.int IntKind.i64 0)).setCell ⟨w.heap.size, 3, none⟩ (Value.int IntKind.i64 0)).setCell ⟨w.heap.size, 4, none⟩ (Value.int IntKind.i64 0)).setCell ⟨w.heap.size, 5, none⟩ (Value.bool false)).setCell ⟨w.heap.size, 6, none⟩ (Value.bool false)).setCell ⟨w.heap.size, 7, none⟩ (Value.int IntKind.i64 0)).setCell ⟨w.heap.size, 8, none⟩ (Value.string ⟨#[]⟩)) := (((((((((HS4.out.write 0 (Value.int IntKind.u32 0)).write 1 (Value.int IntKind.u32 0)).write 2 (Value.int IntKind.i64 0)).write 3 (Value.int IntKind.i64 0)).write 4 (Value.int IntKind.i64 0)).write 5 (Value.bool false)).write 6 (Value.bool false)).write 7 (Value.int IntKind.i64 0)).write 8 (Value.string ⟨#[]⟩))
    generalize (((((((((w4.setCell ⟨w.heap.size, 0, none⟩ (Value.int IntKind.u32 0)).setCell ⟨w.heap.size, 1, none⟩ (Value.int IntKind.u32 0)).setCell ⟨w.heap.size, 2, none⟩ (Value.int IntKind.i64 0)).setCell ⟨w.heap.size, 3, none⟩ (Value.int IntKind.i64 0)).setCell ⟨w.heap.size, 4, none⟩ (Value.int IntKind.i64 0)).setCell ⟨w.heap.size, 5, none⟩ (Value.bool false)).setCell ⟨w.heap.size, 6, none⟩ (Value.bool false)).setCell ⟨w.heap.size, 7, none⟩ (Value.int IntKind.i64 0)).setCell ⟨w.heap.size, 8, none⟩ (Value.string ⟨#[]⟩)) = wf at hSf ⊢
    clear z0 z1 z2 z3 z4 z5 z6 z7 z8 f0 f1 f2 f3 f4 f5 f6 f7 f8
    obtain ⟨z0, z1, z2, z3, z4, z5, z6, z7, z8⟩ := pkt_cells hSf.blk
    have HSf := Lib.hid hSf
    clear hSf
    exact bodyPost_ret (v := .tuple #[.agg (zeroPkt).toArray, .int .i64 6]) (by simp [results, Try.results15, go_sem, z0, z1, z2, z3, z4, z5, z6, z7, z8, pktC, zeroPkt]) rfl ⟨rfl, HSf.out.bel⟩
  · go_wp2_with fail
    have hSf : St w gb w.heap.size 24 (zeroPkt) (((((((((w4.setCell ⟨w.heap.size, 0, none⟩ (Value.int IntKind.u32 0)).setCell ⟨w.heap.size, 1, none⟩ (Value.int IntKind.u32 0)).setCell ⟨w.heap.size, 2, none⟩ (Value.int IntKind.i64 0)).setCell ⟨w.heap.size, 3, none⟩ (Value.int IntKind.i64 0)).setCell ⟨w.heap.size, 4, none⟩ (Value.int IntKind.i64 0)).setCell ⟨w.heap.size, 5, none⟩ (Value.bool false)).setCell ⟨w.heap.size, 6, none⟩ (Value.bool false)).setCell ⟨w.heap.size, 7, none⟩ (Value.int IntKind.i64 0)).setCell ⟨w.heap.size, 8, none⟩ (Value.string ⟨#[]⟩)) := (((((((((HS4.out.write 0 (Value.int IntKind.u32 0)).write 1 (Value.int IntKind.u32 0)).write 2 (Value.int IntKind.i64 0)).write 3 (Value.int IntKind.i64 0)).write 4 (Value.int IntKind.i64 0)).write 5 (Value.bool false)).write 6 (Value.bool false)).write 7 (Value.int IntKind.i64 0)).write 8 (Value.string ⟨#[]⟩))
    generalize (((((((((w4.setCell ⟨w.heap.size, 0, none⟩ (Value.int IntKind.u32 0)).setCell ⟨w.heap.size, 1, none⟩ (Value.int IntKind.u32 0)).setCell ⟨w.heap.size, 2, none⟩ (Value.int IntKind.i64 0)).setCell ⟨w.heap.size, 3, none⟩ (Value.int IntKind.i64 0)).setCell ⟨w.heap.size, 4, none⟩ (Value.int IntKind.i64 0)).setCell ⟨w.heap.size, 5, none⟩ (Value.bool false)).setCell ⟨w.heap.size, 6, none⟩ (Value.bool false)).setCell ⟨w.heap.size, 7, none⟩ (Value.int IntKind.i64 0)).setCell ⟨w.heap.size, 8, none⟩ (Value.string ⟨#[]⟩)) = wf at hSf ⊢
    clear z0 z1 z2 z3 z4 z5 z6 z7 z8 f0 f1 f2 f3 f4 f5 f6 f7 f8
    obtain ⟨z0, z1, z2, z3, z4, z5, z6, z7, z8⟩ := pkt_cells hSf.blk
    have HSf := Lib.hid hSf
    clear hSf
    exact bodyPost_ret (v := .tuple #[.agg (zeroPkt).toArray, .int .i64 4]) (by simp [results, Try.results15, go_sem, z0, z1, z2, z3, z4, z5, z6, z7, z8, pktC, zeroPkt]) rfl ⟨rfl, HSf.out.bel⟩
  · go_wp2_with fail
    have hSf : St w gb w.heap.size 24 (zeroPkt) (((((((((w4.setCell ⟨w.heap.size, 0, none⟩ (Value.int IntKind.u32 0)).setCell ⟨w.heap.size, 1, none⟩ (Value.int IntKind.u32 0)).setCell ⟨w.heap.size, 2, none⟩ (Value.int IntKind.i64 0)).setCell ⟨w.heap.size, 3, none⟩ (Value.int IntKind.i64 0)).setCell ⟨w.heap.size, 4, none⟩ (Value.int IntKind.i64 0)).setCell ⟨w.heap.size, 5, none⟩ (Value.bool false)).setCell ⟨w.heap.size, 6, none⟩ (Value.bool false)).setCell ⟨w.heap.size, 7, none⟩ (Value.int IntKind.i64 0)).setCell ⟨w.heap.size, 8, none⟩ (Value.string ⟨#[]⟩)) := (((((((((HS4.out.write 0 (Value.int IntKind.u32 0)).write 1 (Value.int IntKind.u32 0)).write 2 (Value.int IntKind.i64 0)).write 3 (Value.int IntKind.i64 0)).write 4 (Value.int IntKind.i64 0)).write 5 (Value.bool false)).write 6 (Value.bool false)).write 7 (Value.int IntKind.i64 0)).write 8 (Value.string ⟨#[]⟩))
    generalize (((((((((w4.setCell ⟨w.heap.size, 0, none⟩ (Value.int IntKind.u32 0)).setCell ⟨w.heap.size, 1, none⟩ (Value.int IntKind.u32 0)).setCell ⟨w.heap.size, 2, none⟩ (Value.int IntKind.i64 0)).setCell ⟨w.heap.size, 3, none⟩ (Value.int IntKind.i64 0)).setCell ⟨w.heap.size, 4, none⟩ (Value.int IntKind.i64 0)).setCell ⟨w.heap.size, 5, none⟩ (Value.bool false)).setCell ⟨w.heap.size, 6, none⟩ (Value.bool false)).setCell ⟨w.heap.size, 7, none⟩ (Value.int IntKind.i64 0)).setCell ⟨w.heap.size, 8, none⟩ (Value.string ⟨#[]⟩)) = wf at hSf ⊢
    clear z0 z1 z2 z3 z4 z5 z6 z7 z8 f0 f1 f2 f3 f4 f5 f6 f7 f8
    obtain ⟨z0, z1, z2, z3, z4, z5, z6, z7, z8⟩ := pkt_cells hSf.blk
    have HSf := Lib.hid hSf
    clear hSf
    exact bodyPost_ret (v := .tuple #[.agg (zeroPkt).toArray, .int .i64 4]) (by simp [results, Try.results15, go_sem, z0, z1, z2, z3, z4, z5, z6, z7, z8, pktC, zeroPkt]) rfl ⟨rfl, HSf.out.bel⟩
  · go_wp2_with fail
    have hSf : St w gb w.heap.size 24 (zeroPkt) (((((((((w4.setCell ⟨w.heap.size, 0, none⟩ (Value.int IntKind.u32 0)).setCell ⟨w.heap.size, 1, none⟩ (Value.int IntKind.u32 0)).setCell ⟨w.heap.size, 2, none⟩ (Value.int IntKind.i64 0)).setCell ⟨w.heap.size, 3, none⟩ (Value.int IntKind.i64 0)).setCell ⟨w.heap.size, 4, none⟩ (Value.int IntKind.i64 0)).setCell ⟨w.heap.size, 5, none⟩ (Value.bool false)).setCell ⟨w.heap.size, 6, none⟩ (Value.bool false)).setCell ⟨w.heap.size, 7, none⟩ (Value.int IntKind.i64 0)).setCell ⟨w.heap.size, 8, none⟩ (Value.string ⟨#[]⟩)) := (((((((((HS4.out.write 0 (Value.int IntKind.u32 0)).write 1 (Value.int IntKind.u32 0)).write 2 (Value.int IntKind.i64 0)).write 3 (Value.int IntKind.i64 0)).write 4 (Value.int IntKind.i64 0)).write 5 (Value.bool false)).write 6 (Value.bool false)).write 7 (Value.int IntKind.i64 0)).write 8 (Value.string ⟨#[]⟩))
    generalize (((((((((w4.setCell ⟨w.heap.size, 0, none⟩ (Value.int IntKind.u32 0)).setCell ⟨w.heap.size, 1, none⟩ (Value.int IntKind.u32 0)).setCell ⟨w.heap.size, 2, none⟩ (Value.int IntKind.i64 0)).setCell ⟨w.heap.size, 3, none⟩ (Value.int IntKind.i64 0)).setCell ⟨w.heap.size, 4, none⟩ (Value.int IntKind.i64 0)).setCell ⟨w.heap.size, 5, none⟩ (Value.bool false)).setCell ⟨w.heap.size, 6, none⟩ (Value.bool false)).setCell ⟨w.heap.size, 7, none⟩ (Value.int IntKind.i64 0)).setCell ⟨w.heap.size, 8, none⟩ (Value.string ⟨#[]⟩)) = wf at hSf ⊢
    clear z0 z1 z2 z3 z4 z5 z6 z7 z8 f0 f1 f2 f3 f4 f5 f6 f7 f8
    obtain ⟨z0, z1, z2, z3, z4, z5, z6, z7, z8⟩ := pkt_cells hSf.blk
    have HSf := Lib.hid hSf
    clear hSf
    exact bodyPost_ret (v := .tuple #[.agg (zeroPkt).toArray, .int .i64 3]) (by simp [results, Try.results15, go_sem, z0, z1, z2, z3, z4, z5, z6, z7, z8, pktC, zeroPkt]) rfl ⟨rfl, HSf.out.bel⟩
  · go_wp2_with fail
    have hSf : St w gb w.heap.size 24 (zeroPkt) (((((((((w4.setCell ⟨w.heap.size, 0, none⟩ (Value.int IntKind.u32 0)).setCell ⟨w.heap.size, 1, none⟩ (Value.int IntKind.u32 0)).setCell ⟨w.heap.size, 2, none⟩ (Value.int IntKind.i64 0)).setCell ⟨w.heap.size, 3, none⟩ (Value.int IntKind.i64 0)).setCell ⟨w.heap.size, 4, none⟩ (Value.int IntKind.i64 0)).setCell ⟨w.heap.size, 5, none⟩ (Value.bool false)).setCell ⟨w.heap.size, 6, none⟩ (Value.bool false)).setCell ⟨w.heap.size, 7, none⟩ (Value.int IntKind.i64 0)).setCell ⟨w.heap.size, 8, none⟩ (Value.string ⟨#[]⟩)) := (((((((((HS4.out.write 0 (Value.int IntKind.u32 0)).write 1 (Value.int IntKind.u32 0)).write 2 (Value.int IntKind.i64 0)).write 3 (Value.int IntKind.i64 0)).write 4 (Value.int IntKind.i64 0)).write 5 (Value.bool false)).write 6 (Value.bool false)).write 7 (Value.int IntKind.i64 0)).write 8 (Value.string ⟨#[]⟩))
    generalize (((((((((w4.setCell ⟨w.heap.size, 0, none⟩ (Value.int IntKind.u32 0)).setCell ⟨w.heap.size, 1, none⟩ (Value.int IntKind.u32 0)).setCell ⟨w.heap.size, 2, none⟩ (Value.int IntKind.i64 0)).setCell ⟨w.heap.size, 3, none⟩ (Value.int IntKind.i64 0)).setCell ⟨w.heap.size, 4, none⟩ (Value.int IntKind.i64 0)).setCell ⟨w.heap.size, 5, none⟩ (Value.bool false)).setCell ⟨w.heap.size, 6, none⟩ (Value.bool false)).setCell ⟨w.heap.size, 7, none⟩ (Value.int IntKind.i64 0)).setCell ⟨w.heap.size, 8, none⟩ (Value.string ⟨#[]⟩)) = wf at hSf ⊢
    clear z0 z1 z2 z3 z4 z5 z6 z7 z8 f0 f1 f2 f3 f4 f5 f6 f7 f8
    obtain ⟨z0, z1, z2, z3, z4, z5, z6, z7, z8⟩ := pkt_cells hSf.blk
    have HSf := Lib.hid hSf
    clear hSf
    exact bodyPost_ret (v := .tuple #[.agg (zeroPkt).toArray, .int .i64 4]) (by simp [results, Try.results15, go_sem, z0, z1, z2, z3, z4, z5, z6, z7, z8, pktC, zeroPkt]) rfl ⟨rfl, HSf.out.bel⟩
  · go_wp2_with fail
    rw [d6] at HFT
    refine (HFT.out _ HAT4.out hgs4).mono ?_
    rintro e w5 ⟨rfl, hb5⟩
    have HS5 := Lib.hid (HS4.out.made hb5)
    have hK5 := HK4.out.below hb5 HK4.out.lt
    clear y0 y1 y2 y3 y4 y5 y6 y7 y8
    obtain ⟨y0, y1, y2, y3, y4, y5, y6, y7, y8⟩ := pkt_cells hK5
    have HK5 := Lib.hid hK5
    clear hb5 hK5
    clear z0 z1 z2 z3 z4 z5 z6 z7 z8 f0 f1 f2 f3 f4 f5 f6 f7 f8
    obtain ⟨z0, z1, z2, z3, z4, z5, z6, z7, z8⟩ := pkt_cells HS5.out.blk
    have f0 := HS5.out.blk.frozen 0
    have f1 := HS5.out.blk.frozen 1
    have f2 := HS5.out.blk.frozen 2
    have f3 := HS5.out.blk.frozen 3
    have f4 := HS5.out.blk.frozen 4
    have f5 := HS5.out.blk.frozen 5
    have f6 := HS5.out.blk.frozen 6
    have f7 := HS5.out.blk.frozen 7
    have f8 := HS5.out.blk.frozen 8
    go_wp2_with fail
    have hSf : St w gb w.heap.size 24 (zeroPkt) (((((((((w5.setCell ⟨w.heap.size, 0, none⟩ (Value.int IntKind.u32 0)).setCell ⟨w.heap.size, 1, none⟩ (Value.int IntKind.u32 0)).setCell ⟨w.heap.size, 2, none⟩ (Value.int IntKind.i64 0)).setCell ⟨w.heap.size, 3, none⟩ (Value.int IntKind.i64 0)).setCell ⟨w.heap.size, 4, none⟩ (Value.int IntKind.i64 0)).setCell ⟨w.heap.size, 5, none⟩ (Value.bool false)).setCell ⟨w.heap.size, 6, none⟩ (Value.bool false)).setCell ⟨w.heap.size, 7, none⟩ (Value.int IntKind.i64 0)).setCell ⟨w.heap.size, 8, none⟩ (Value.string ⟨#[]⟩)) := (((((((((HS5.out.write 0 (Value.int IntKind.u32 0)).write 1 (Value.int IntKind.u32 0)).write 2 (Value.int IntKind.i64 0)).write 3 (Value.int IntKind.i64 0)).write 4 (Value.int IntKind.i64 0)).write 5 (Value.bool false)).write 6 (Value.bool false)).write 7 (Value.int IntKind.i64 0)).write 8 (Value.string ⟨#[]⟩))
    generalize (((((((((w5.setCell ⟨w.heap.size, 0, none⟩ (Value.int IntKind.u32 0)).setCell ⟨w.heap.size, 1, none⟩ (Value.int IntKind.u32 0)).setCell ⟨w.heap.size, 2, none⟩ (Value.int IntKind.i64 0)).setCell ⟨w.heap.size, 3, none⟩ (Value.int IntKind.i64 0)).setCell ⟨w.heap.size, 4, none⟩ (Value.int IntKind.i64 0)).setCell ⟨w.heap.size, 5, none⟩ (Value.bool false)).setCell ⟨w.heap.size, 6, none⟩ (Value.bool false)).setCell ⟨w.heap.size, 7, none⟩ (Value.int IntKind.i64 0)).setCell ⟨w.heap.size, 8, none⟩ (Value.string ⟨#[]⟩)) = wf at hSf ⊢
    clear z0 z1 z2 z3 z4 z5 z6 z7 z8 f0 f1 f2 f3 f4 f5 f6 f7 f8
    obtain ⟨z0, z1, z2, z3, z4, z5, z6, z7, z8⟩ := pkt_cells hSf.blk
    have HSf := Lib.hid hSf
    clear hSf
    exact bodyPost_ret (v := .tuple #[.agg (zeroPkt).toArray, .int .i64 5]) (by simp [results, Try.results15, go_sem, z0, z1, z2, z3, z4, z5, z6, z7, z8, pktC, zeroPkt]) rfl ⟨rfl, HSf.out.bel⟩
  · have hUC := HUC.out
    rw [hq] at hUC
    have HU := Lib.hid hUC
    have he3 : er = 0 ∨ er = 1 ∨ er = 2 := by
      rw [← hq]
      unfold ipChk
      split
      · exact .inr (.inl rfl)
      · split
        · exact .inr (.inr rfl)
        · exact .inl rfl
    clear hUC hq
    rw [d6] at HFT
    go_wp2_with fail
    refine (HFT.out _ HAT4.out hgs4).mono ?_
    rintro e w5 ⟨rfl, hb5⟩
    have HS5 := Lib.hid (HS4.out.made hb5)
    have hK5 := HK4.out.below hb5 HK4.out.lt
    clear y0 y1 y2 y3 y4 y5 y6 y7 y8
    obtain ⟨y0, y1, y2, y3, y4, y5, y6, y7, y8⟩ := pkt_cells hK5
    have HK5 := Lib.hid hK5
    clear hb5 hK5
    clear z0 z1 z2 z3 z4 z5 z6 z7 z8 f0 f1 f2 f3 f4 f5 f6 f7 f8
    obtain ⟨z0, z1, z2, z3, z4, z5, z6, z7, z8⟩ := pkt_cells HS5.out.blk
    have f0 := HS5.out.blk.frozen 0
    have f1 := HS5.out.blk.frozen 1
    have f2 := HS5.out.blk.frozen 2
    have f3 := HS5.out.blk.frozen 3
    have f4 := HS5.out.blk.frozen 4
    have f5 := HS5.out.blk.frozen 5
    have f6 := HS5.out.blk.frozen 6
    have f7 := HS5.out.blk.frozen 7
    have f8 := HS5.out.blk.frozen 8
    go_wp2_with fail
    refine (HU.out _).mono ?_
    rintro e w6 ⟨rfl, hb6⟩
    have HS6 := Lib.hid (HS5.out.made hb6)
    have hK6 := HK5.out.below hb6 HK5.out.lt
    clear y0 y1 y2 y3 y4 y5 y6 y7 y8
    obtain ⟨y0, y1, y2, y3, y4, y5, y6, y7, y8⟩ := pkt_cells hK6
    have HK6 := Lib.hid hK6
    clear hb6 hK6
    clear z0 z1 z2 z3 z4 z5 z6 z7 z8 f0 f1 f2 f3 f4 f5 f6 f7 f8
    obtain ⟨z0, z1, z2, z3, z4, z5, z6, z7, z8⟩ := pkt_cells HS6.out.blk
    have f0 := HS6.out.blk.frozen 0
    have f1 := HS6.out.blk.frozen 1
    have f2 := HS6.out.blk.frozen 2
    have f3 := HS6.out.blk.frozen 3
    have f4 := HS6.out.blk.frozen 4
    have f5 := HS6.out.blk.frozen 5
    have f6 := HS6.out.blk.frozen 6
    have f7 := HS6.out.blk.frozen 7
    have f8 := HS6.out.blk.frozen 8
    rcases he3 with rfl | rfl | rfl
    · go_wp2_with fail
      have hSf : St w gb w.heap.size 24 (pktC src dst proto ttl id dont more off body) (((((((((w6.setCell ⟨w.heap.size, 0, none⟩ (Value.int IntKind.u32 ↑src)).setCell ⟨w.heap.size, 1, none⟩ (Value.int IntKind.u32 ↑dst)).setCell ⟨w.heap.size, 2, none⟩ (Value.int IntKind.i64 ↑proto)).setCell ⟨w.heap.size, 3, none⟩ (Value.int IntKind.i64 ↑ttl)).setCell ⟨w.heap.size, 4, none⟩ (Value.int IntKind.i64 ↑id)).setCell ⟨w.heap.size, 5, none⟩ (Value.bool dont)).setCell ⟨w.heap.size, 6, none⟩ (Value.bool more)).setCell ⟨w.heap.size, 7, none⟩ (Value.int IntKind.i64 ↑off)).setCell ⟨w.heap.size, 8, none⟩ (Value.string body)) := (((((((((HS6.out.write 0 (Value.int IntKind.u32 ↑src)).write 1 (Value.int IntKind.u32 ↑dst)).write 2 (Value.int IntKind.i64 ↑proto)).write 3 (Value.int IntKind.i64 ↑ttl)).write 4 (Value.int IntKind.i64 ↑id)).write 5 (Value.bool dont)).write 6 (Value.bool more)).write 7 (Value.int IntKind.i64 ↑off)).write 8 (Value.string body))
      generalize (((((((((w6.setCell ⟨w.heap.size, 0, none⟩ (Value.int IntKind.u32 ↑src)).setCell ⟨w.heap.size, 1, none⟩ (Value.int IntKind.u32 ↑dst)).setCell ⟨w.heap.size, 2, none⟩ (Value.int IntKind.i64 ↑proto)).setCell ⟨w.heap.size, 3, none⟩ (Value.int IntKind.i64 ↑ttl)).setCell ⟨w.heap.size, 4, none⟩ (Value.int IntKind.i64 ↑id)).setCell ⟨w.heap.size, 5, none⟩ (Value.bool dont)).setCell ⟨w.heap.size, 6, none⟩ (Value.bool more)).setCell ⟨w.heap.size, 7, none⟩ (Value.int IntKind.i64 ↑off)).setCell ⟨w.heap.size, 8, none⟩ (Value.string body)) = wf at hSf ⊢
      clear z0 z1 z2 z3 z4 z5 z6 z7 z8 f0 f1 f2 f3 f4 f5 f6 f7 f8
      obtain ⟨z0, z1, z2, z3, z4, z5, z6, z7, z8⟩ := pkt_cells hSf.blk
      have HSf := Lib.hid hSf
      clear hSf
      exact bodyPost_ret (v := .tuple #[.agg (pktC src dst proto ttl id dont more off body).toArray, .int .i64 0]) (by simp [results, Try.results15, go_sem, z0, z1, z2, z3, z4, z5, z6, z7, z8, pktC]) rfl ⟨rfl, HSf.out.bel⟩
    · go_wp2_with fail
      have hSf : St w gb w.heap.size 24 (zeroPkt) (((((((((w6.setCell ⟨w.heap.size, 0, none⟩ (Value.int IntKind.u32 0)).setCell ⟨w.heap.size, 1, none⟩ (Value.int IntKind.u32 0)).setCell ⟨w.heap.size, 2, none⟩ (Value.int IntKind.i64 0)).setCell ⟨w.heap.size, 3, none⟩ (Value.int IntKind.i64 0)).setCell ⟨w.heap.size, 4, none⟩ (Value.int IntKind.i64 0)).setCell ⟨w.heap.size, 5, none⟩ (Value.bool false)).setCell ⟨w.heap.size, 6, none⟩ (Value.bool false)).setCell ⟨w.heap.size, 7, none⟩ (Value.int IntKind.i64 0)).setCell ⟨w.heap.size, 8, none⟩ (Value.string ⟨#[]⟩)) := (((((((((HS6.out.write 0 (Value.int IntKind.u32 0)).write 1 (Value.int IntKind.u32 0)).write 2 (Value.int IntKind.i64 0)).write 3 (Value.int IntKind.i64 0)).write 4 (Value.int IntKind.i64 0)).write 5 (Value.bool false)).write 6 (Value.bool false)).write 7 (Value.int IntKind.i64 0)).write 8 (Value.string ⟨#[]⟩))
      generalize (((((((((w6.setCell ⟨w.heap.size, 0, none⟩ (Value.int IntKind.u32 0)).setCell ⟨w.heap.size, 1, none⟩ (Value.int IntKind.u32 0)).setCell ⟨w.heap.size, 2, none⟩ (Value.int IntKind.i64 0)).setCell ⟨w.heap.size, 3, none⟩ (Value.int IntKind.i64 0)).setCell ⟨w.heap.size, 4, none⟩ (Value.int IntKind.i64 0)).setCell ⟨w.heap.size, 5, none⟩ (Value.bool false)).setCell ⟨w.heap.size, 6, none⟩ (Value.bool false)).setCell ⟨w.heap.size, 7, none⟩ (Value.int IntKind.i64 0)).setCell ⟨w.heap.size, 8, none⟩ (Value.string ⟨#[]⟩)) = wf at hSf ⊢
      clear z0 z1 z2 z3 z4 z5 z6 z7 z8 f0 f1 f2 f3 f4 f5 f6 f7 f8
      obtain ⟨z0, z1, z2, z3, z4, z5, z6, z7, z8⟩ := pkt_cells hSf.blk
      have HSf := Lib.hid hSf
      clear hSf
      exact bodyPost_ret (v := .tuple #[.agg (zeroPkt).toArray, .int .i64 1]) (by simp [results, Try.results15, go_sem, z0, z1, z2, z3, z4, z5, z6, z7, z8, pktC, zeroPkt]) rfl ⟨rfl, HSf.out.bel⟩
    · go_wp2_with fail
      have hSf : St w gb w.heap.size 24 (zeroPkt) (((((((((w6.setCell ⟨w.heap.size, 0, none⟩ (Value.int IntKind.u32 0)).setCell ⟨w.heap.size, 1, none⟩ (Value.int IntKind.u32 0)).setCell ⟨w.heap.size, 2, none⟩ (Value.int IntKind.i64 0)).setCell ⟨w.heap.size, 3, none⟩ (Value.int IntKind.i64 0)).setCell ⟨w.heap.size, 4, none⟩ (Value.int IntKind.i64 0)).setCell ⟨w.heap.size, 5, none⟩ (Value.bool false)).setCell ⟨w.heap.size, 6, none⟩ (Value.bool false)).setCell ⟨w.heap.size, 7, none⟩ (Value.int IntKind.i64 0)).setCell ⟨w.heap.size, 8, none⟩ (Value.string ⟨#[]⟩)) := (((((((((HS6.out.write 0 (Value.int IntKind.u32 0)).write 1 (Value.int IntKind.u32 0)).write 2 (Value.int IntKind.i64 0)).write 3 (Value.int IntKind.i64 0)).write 4 (Value.int IntKind.i64 0)).write 5 (Value.bool false)).write 6 (Value.bool false)).write 7 (Value.int IntKind.i64 0)).write 8 (Value.string ⟨#[]⟩))
      generalize (((((((((w6.setCell ⟨w.heap.size, 0, none⟩ (Value.int IntKind.u32 0)).setCell ⟨w.heap.size, 1, none⟩ (Value.int IntKind.u32 0)).setCell ⟨w.heap.size, 2, none⟩ (Value.int IntKind.i64 0)).setCell ⟨w.heap.size, 3, none⟩ (Value.int IntKind.i64 0)).setCell ⟨w.heap.size, 4, none⟩ (Value.int IntKind.i64 0)).setCell ⟨w.heap.size, 5, none⟩ (Value.bool false)).setCell ⟨w.heap.size, 6, none⟩ (Value.bool false)).setCell ⟨w.heap.size, 7, none⟩ (Value.int IntKind.i64 0)).setCell ⟨w.heap.size, 8, none⟩ (Value.string ⟨#[]⟩)) = wf at hSf ⊢
      clear z0 z1 z2 z3 z4 z5 z6 z7 z8 f0 f1 f2 f3 f4 f5 f6 f7 f8
      obtain ⟨z0, z1, z2, z3, z4, z5, z6, z7, z8⟩ := pkt_cells hSf.blk
      have HSf := Lib.hid hSf
      clear hSf
      exact bodyPost_ret (v := .tuple #[.agg (zeroPkt).toArray, .int .i64 2]) (by simp [results, Try.results15, go_sem, z0, z1, z2, z3, z4, z5, z6, z7, z8, pktC, zeroPkt]) rfl ⟨rfl, HSf.out.bel⟩
end Go.Proofs.Ythjigajielhkfaa
