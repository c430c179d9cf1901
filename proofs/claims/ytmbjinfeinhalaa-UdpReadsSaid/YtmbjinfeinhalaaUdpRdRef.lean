/- The reference's UdpRead. -/
import Derived.Test.YtmbjinfeinhalaaUdpRd
namespace Go.Proofs.Ytmbjinfeinhalaa
open Go.RowKit
set_option linter.unusedVariables false

theorem bigL_pair (n : Nat) (h : n ≤ 65535) : bigL n 2 = [byt ((n : Int) / 256), byt ((n : Int) % 256)] := by
  simp only [bigL, List.nil_append, List.cons_append]
  rw [show (n : Int) / 256 % 256 = (n : Int) / 256 from by omega]
theorem byt_natN {n : Int} (h : 0 ≤ n) (h' : n ≤ 255) : (byt n).toNat = n.toNat := by have := u8_nat h h'; omega
theorem bigL_num2 (m : List UInt8) (h : m.length = 2) : bigL (numL m : Int) 2 = m := by
  match m, h with
  | [a, b], _ =>
    have ha := a.toNat_lt
    have hb := b.toNat_lt
    have e : numL [a, b] = a.toNat * 256 + b.toNat := by simp [numL]
    rw [e, bigL_pair _ (by omega)]
    have e1 : ((a.toNat * 256 + b.toNat : Nat) : Int) / 256 = (a.toNat : Int) := by omega
    have e2 : ((a.toNat * 256 + b.toNat : Nat) : Int) % 256 = (b.toNat : Int) := by omega
    rw [e1, e2, u8_toNat, u8_toNat]
theorem numL_big2 (n : Int) (h : 0 ≤ n) (h' : n ≤ 65535) : (numL (bigL n 2) : Int) = n := by
  obtain ⟨k, rfl⟩ := Int.eq_ofNat_of_zero_le h
  rw [bigL_pair k (by omega)]
  have e : numL [byt ((k : Int) / 256), byt ((k : Int) % 256)] = (byt ((k : Int) / 256)).toNat * 256 + (byt ((k : Int) % 256)).toNat := by simp [numL]
  rw [e, byt_natN (by omega) (by omega), byt_natN (by omega) (by omega)]
  omega
theorem udpA_take (l : List UInt8) (h8 : 8 ≤ l.length) (hn : numL ((l.drop 4).take 2) = l.length) : udpA (numL (l.take 2)) (numL ((l.drop 2).take 2)) (l.length - 8) = l.take 6 := by
  unfold udpA
  rw [show (8 : Int) + ((l.length - 8 : Nat) : Int) = (numL ((l.drop 4).take 2) : Int) from by omega, bigL_num2 _ (by simp; omega), bigL_num2 _ (by simp; omega), bigL_num2 _ (by simp; omega)]
  rw [show 6 = 2 + 2 + 2 from rfl, List.take_add, List.take_add]
theorem split8 (l : List UInt8) (h8 : 8 ≤ l.length) : l.take 6 ++ (l.drop 6).take 2 ++ l.drop 8 = l := by
  have h1 : l.take 6 ++ (l.drop 6).take 2 = l.take 8 := by rw [show 8 = 6 + 2 from rfl, List.take_add]
  rw [h1, List.take_append_drop]
theorem udpL_of (src dst : Int) (l : List UInt8) (h8 : 8 ≤ l.length) (hn : numL ((l.drop 4).take 2) = l.length) :
    udpL src (numL (l.take 2)) dst (numL ((l.drop 2).take 2)) (l.drop 8) = l.take 6 ++ bigL (udpN src dst (zero67 l)) 2 ++ l.drop 8 := by
  unfold udpL
  rw [List.length_drop, udpA_take l h8 hn]
  rfl
theorem udpL_same (src dst : Int) (l : List UInt8) (h8 : 8 ≤ l.length) (hn : numL ((l.drop 4).take 2) = l.length) (hc : udpN src dst (zero67 l) = (numL ((l.drop 6).take 2) : Int)) :
    udpL src (numL (l.take 2)) dst (numL ((l.drop 2).take 2)) (l.drop 8) = l := by
  rw [udpL_of src dst l h8 hn, hc, bigL_num2 _ (by simp; omega)]
  exact split8 l h8
theorem udpL_differs (src dst : Int) (l : List UInt8) (h8 : 8 ≤ l.length) (hn : numL ((l.drop 4).take 2) = l.length) (hc : udpN src dst (zero67 l) ≠ (numL ((l.drop 6).take 2) : Int)) :
    udpL src (numL (l.take 2)) dst (numL ((l.drop 2).take 2)) (l.drop 8) ≠ l := by
  intro h
  rw [udpL_of src dst l h8 hn] at h
  have h2 := (split8 l h8).symm
  rw [h2] at h
  have e6 : (l.take 6 ++ (l.drop 6).take 2 ++ l.drop 8).take 6 = l.take 6 := by rw [split8 l h8]
  have h3 : l.take 6 ++ bigL (udpN src dst (zero67 l)) 2 ++ l.drop 8 = l.take 6 ++ (l.drop 6).take 2 ++ l.drop 8 := by
    have := udpL_of src dst l h8 hn
    rw [split8 l h8] at h ⊢
    exact h
  have h4 := List.append_cancel_right h3
  have h5 := List.append_cancel_left h4
  have hbd := udpN_bd src dst (zero67 l)
  have := congrArg numL h5
  have k := numL_big2 _ hbd.1 hbd.2
  rw [this] at k
  exact hc k.symm
theorem ne_toList {a b : ByteArray} (h : a.data.toList ≠ b.data.toList) : (a.toList == b.toList) = false := by
  rw [Lib.toList_data, Lib.toList_data, beq_eq_false_iff_ne]
  exact h

theorem lay_gram2 (w : World) : (Instr.alloc 33 true (.tuple #[])).run Try.prog w = .ok (.pointer (some ⟨w.heap.size, 0, none⟩)) (w.alloc (.cells zeroGram.toArray 33)) := lay_gram w

set_option maxRecDepth 100000 in
set_option maxHeartbeats 6000000 in
theorem ref_UdpRead_any (src dst : Int) (s : ByteArray) (w : World) (h0 : 0 ≤ src) (h0' : src ≤ 4294967295) (h1 : 0 ≤ dst) (h1' : dst ≤ 4294967295) (hs : s.size ≤ 140737488351232) (h8 : 8 ≤ s.size) (er : Int) (he : udpErr src dst s.data.toList = er) :
    Calls Try.prog 41 #[.int .u32 src, .int .u32 dst, .string s] w fun e w' =>
      e = .returned (.tuple #[.agg (if er = 0 then gramC src (numL (s.data.toList.take 2)) dst (numL ((s.data.toList.drop 2).take 2)) (bs (s.data.toList.drop 8)) else zeroGram).toArray, .int .i64 er]) ∧ Below w.heap.size w w' := by
  have hll := Lib.size_eq s
  obtain ⟨body, hbody⟩ : ∃ body, body = s.extract 8 s.size := ⟨_, rfl⟩
  have hbs : body.size = s.size - 8 := by rw [hbody]; simp
  have hbz : body.size ≤ 140737488351232 := by omega
  have hbl : body = bs (s.data.toList.drop 8) := by
    rw [hbody]
    exact bs_eq (by rw [Lib.extract_data, List.take_of_length_le (by simp)])
  have hsl : ∀ W, (Instr.slice 9 (.string s) (some (.int .i64 8)) none none).run Try.prog W = .ok (.string body) W := fun W => by rw [hbody]; exact run_str_from s 8 h8 W
  have num_of : ∀ i, i + 2 ≤ 8 → ∀ W, Calls Try.prog 119 #[.string (s.extract i (i + 2))] W fun e w' => e = .returned (.int .u64 (numL ((s.data.toList.drop i).take 2) : Int)) ∧ ∃ n, w' = W.drewN n := by
    intro i hi W
    have := ref_num 8 (s.extract i (i + 2)) W (by omega) (by rw [ByteArray.size_extract]; omega)
    rw [Lib.extract_data, show i + 2 - i = 2 from by omega] at this
    exact this
  have HN0 := Lib.hid (num_of 0 (by omega))
  have HN2 := Lib.hid (num_of 2 (by omega))
  have HN4 := Lib.hid (num_of 4 (by omega))
  have HN6 := Lib.hid (num_of 6 (by omega))
  have hn : ∀ i, numL ((s.data.toList.drop i).take 2) ≤ 65535 := fun i => by
    have := numL_le (l := (s.data.toList.drop i).take 2) (k := 2) (by simp; omega)
    omega
  have same := udpL_same src dst s.data.toList (by omega)
  have differs := udpL_differs src dst s.data.toList (by omega)
  have hbd : body.data.toList = s.data.toList.drop 8 := by rw [hbl, bs_data]
  rw [← hbl]
  unfold udpErr at he
  rw [List.drop_zero] at HN0
  have b0 := hn 0
  rw [List.drop_zero] at b0
  have b2 := hn 2
  have b4 := hn 4
  have b6 := hn 6
  have HUB := Lib.hid (fun (W : World) (fp tp : Int) (k0 : 0 ≤ fp) (k1 : fp ≤ 65535) (k2 : 0 ≤ tp) (k3 : tp ≤ 65535) (hb : body.size ≤ 65535) => ref_udpBytes src fp dst tp body W h0 h0' h1 h1' k0 k1 k2 k3 hb)
  generalize udpN src dst (zero67 s.data.toList) = ck at he same differs
  generalize numL (s.data.toList.take 2) = fp at HN0 b0 he same differs ⊢
  generalize numL ((s.data.toList.drop 2).take 2) = tp at HN2 b2 he same differs ⊢
  generalize numL ((s.data.toList.drop 4).take 2) = all at HN4 b4 he same differs
  generalize numL ((s.data.toList.drop 6).take 2) = told at HN6 b6 he same differs
  rw [← hll, show s.size - 8 = body.size from hbs.symm] at he
  rw [← hll] at same differs
  rw [← hbd] at same differs
  have HUC := Lib.hid (fun W => ref_UdpCheck src fp dst tp body W (by omega))
  have hcs := udp_cases he
  have HSAME := Lib.hid same
  have HDIFF := Lib.hid differs
  have HBS := Lib.hid hbs
  have hS0 := St.start w 33 zeroGram
  change St _ _ _ _ _ (w.alloc (Obj.cells #[Value.int .u32 0, .int .i64 0, .int .u32 0, .int .i64 0, .string ⟨#[]⟩] 33)) at hS0
  generalize hW0 : w.alloc (Obj.cells #[Value.int .u32 0, .int .i64 0, .int .u32 0, .int .i64 0, .string ⟨#[]⟩] 33) = W0 at hS0
  have HW0 := Lib.hid hW0
  have HS0 := Lib.hid hS0
  have HCS := Lib.hid hcs
  clear hS0 hll he hcs hbl hbody hbs hn same differs num_of hbd hW0
  obtain ⟨z0, z1, z2, z3, z4⟩ := gram_cells HS0.out.blk
  have f0 := HS0.out.blk.frozen 0
  have f1 := HS0.out.blk.frozen 1
  have f2 := HS0.out.blk.frozen 2
  have f3 := HS0.out.blk.frozen 3
  have f4 := HS0.out.blk.frozen 4
  rcases HCS.out with ⟨d1, rfl⟩ | ⟨d1, rfl⟩ | ⟨d1, d2, d3, rfl⟩ | ⟨d1, d2, d3, d4, rfl⟩ | ⟨d1, d2, d3, d4, hq⟩
  · skip
    go_enter Try.func41, Try.ntmps41
    go_upto_region 1 with fail
    rw [HW0.out]
    go_wp2_with (go_at_call 119; first | (with_reducible refine (HN4.out _).mono ?_; rintro e w' ⟨rfl, nn, rfl⟩) | (with_reducible refine (HN6.out _).mono ?_; rintro e w' ⟨rfl, nn, rfl⟩))
    exact bodyPost_ret (v := .tuple #[.agg (zeroGram).toArray, .int .i64 3]) (by simp [results, Try.results41, go_sem, z0, z1, z2, z3, z4, gramC, zeroGram]) rfl ⟨rfl, ((((((HS0.out.write 0 _).write 1 _).write 2 _).write 3 _).write 4 _).drewN _).bel⟩
  · skip
    go_enter Try.func41, Try.ntmps41
    go_upto_region 1 with fail
    rw [HW0.out]
    go_wp2_with (go_at_call 119; first | (with_reducible refine (HN4.out _).mono ?_; rintro e w' ⟨rfl, nn, rfl⟩) | (with_reducible refine (HN6.out _).mono ?_; rintro e w' ⟨rfl, nn, rfl⟩))
    exact bodyPost_ret (v := .tuple #[.agg (zeroGram).toArray, .int .i64 4]) (by simp [results, Try.results41, go_sem, z0, z1, z2, z3, z4, gramC, zeroGram]) rfl ⟨rfl, ((((((HS0.out.write 0 _).write 1 _).write 2 _).write 3 _).write 4 _).drewN _).bel⟩
  · skip
    go_enter Try.func41, Try.ntmps41
    go_upto_region 1 with fail
    rw [HW0.out]
    go_wp2_with (go_at_call 119; first | (with_reducible refine (HN4.out _).mono ?_; rintro e w' ⟨rfl, nn, rfl⟩) | (with_reducible refine (HN6.out _).mono ?_; rintro e w' ⟨rfl, nn, rfl⟩))
    exact bodyPost_ret (v := .tuple #[.agg (zeroGram).toArray, .int .i64 4]) (by simp [results, Try.results41, go_sem, z0, z1, z2, z3, z4, gramC, zeroGram]) rfl ⟨rfl, ((((((HS0.out.write 0 _).write 1 _).write 2 _).write 3 _).write 4 _).drewN _).bel⟩
  · skip
    go_enter Try.func41, Try.ntmps41
    go_upto_region 1 with fail
    rw [HW0.out]
    go_upto_region 5 with (go_at_call 119; first | (with_reducible refine (HN4.out _).mono ?_; rintro e w' ⟨rfl, nn, rfl⟩) | (with_reducible refine (HN6.out _).mono ?_; rintro e w' ⟨rfl, nn, rfl⟩))
    refine wp_region_kin_alloc 16 8 33 zeroGram (by kernel_rfl) (by kernel_rfl) lay_gram ?_
    apply Exists.intro
    refine ⟨?_, ?_, ?_⟩
    · intro X hX hne v
      simp only [List.take_succ_cons, List.take_zero, Act.put, List.setIfInBounds_toArray, List.set_cons_zero, List.set_cons_succ]
      repeat go_big_quiet_step ((go_at_call 119; first | (with_reducible exact kinX_drew hX (HN0.out _)) | (with_reducible exact kinX_drew hX (HN2.out _))))
      exact wpQuiet_nil (Eq.refl _)
    · exact fun _ _ => rfl
    intro gp w3 hb3 hp3 hK3
    simp only [List.drop_succ_cons, List.drop_zero]
    have hS3 := (HS0.out.drewN _).made hb3
    have hgl : w.heap.size < gp := Nat.lt_of_lt_of_le HS0.out.size hp3
    have hgl' : gp ≠ w.heap.size := by omega
    obtain ⟨y0, y1, y2, y3, y4⟩ := gram_cells hK3
    have g0 := hK3.frozen 0
    have g1 := hK3.frozen 1
    have g2 := hK3.frozen 2
    have g3 := hK3.frozen 3
    have g4 := hK3.frozen 4
    have HS3 := Lib.hid hS3
    have HK3 := Lib.hid hK3
    clear hS3 hK3 hb3 hp3
    go_upto_region 6 with fail
    have hK4 : Blk (((((w3.setCell ⟨gp, 0, none⟩ (Value.int IntKind.u32 src)).setCell ⟨gp, 1, none⟩ (Value.int IntKind.i64 ↑fp)).setCell ⟨gp, 2, none⟩ (Value.int IntKind.u32 dst)).setCell ⟨gp, 3, none⟩ (Value.int IntKind.i64 ↑tp)).setCell ⟨gp, 4, none⟩ (Value.string body)) gp 33 (gramC src fp dst tp body) := (((((HK3.out.set_ 0 (Value.int IntKind.u32 src)).set_ 1 (Value.int IntKind.i64 ↑fp)).set_ 2 (Value.int IntKind.u32 dst)).set_ 3 (Value.int IntKind.i64 ↑tp)).set_ 4 (Value.string body))
    have hS4 : St w (w.heap.size + 1) w.heap.size 33 zeroGram (((((w3.setCell ⟨gp, 0, none⟩ (Value.int IntKind.u32 src)).setCell ⟨gp, 1, none⟩ (Value.int IntKind.i64 ↑fp)).setCell ⟨gp, 2, none⟩ (Value.int IntKind.u32 dst)).setCell ⟨gp, 3, none⟩ (Value.int IntKind.i64 ↑tp)).setCell ⟨gp, 4, none⟩ (Value.string body)) := HS3.out.only (k := gp) hgl ((((((Only.refl (· = gp) w3).here (i := 0) (u := Value.int IntKind.u32 src)).here (i := 1) (u := Value.int IntKind.i64 ↑fp)).here (i := 2) (u := Value.int IntKind.u32 dst)).here (i := 3) (u := Value.int IntKind.i64 ↑tp)).here (i := 4) (u := Value.string body))
    generalize (((((w3.setCell ⟨gp, 0, none⟩ (Value.int IntKind.u32 src)).setCell ⟨gp, 1, none⟩ (Value.int IntKind.i64 ↑fp)).setCell ⟨gp, 2, none⟩ (Value.int IntKind.u32 dst)).setCell ⟨gp, 3, none⟩ (Value.int IntKind.i64 ↑tp)).setCell ⟨gp, 4, none⟩ (Value.string body)) = w4 at hK4 hS4 ⊢
    clear y0 y1 y2 y3 y4 g0 g1 g2 g3 g4 HK3 HS3
    obtain ⟨y0, y1, y2, y3, y4⟩ := gram_cells hK4
    have HS4 := Lib.hid hS4
    have HK4 := Lib.hid hK4
    clear hK4 hS4
    go_wp2_with fail
    refine (HUB.out _ fp tp (by omega) (by omega) (by omega) (by omega) (by have := HBS.out; omega)).mono ?_
    rintro e w5 ⟨rfl, hb5⟩
    have HS5 := Lib.hid (HS4.out.made hb5)
    have hK5 := HK4.out.below hb5 HK4.out.lt
    clear y0 y1 y2 y3 y4
    obtain ⟨y0, y1, y2, y3, y4⟩ := gram_cells hK5
    have HK5 := Lib.hid hK5
    clear hb5 hK5
    clear z0 z1 z2 z3 z4 f0 f1 f2 f3 f4
    obtain ⟨z0, z1, z2, z3, z4⟩ := gram_cells HS5.out.blk
    have f0 := HS5.out.blk.frozen 0
    have f1 := HS5.out.blk.frozen 1
    have f2 := HS5.out.blk.frozen 2
    have f3 := HS5.out.blk.frozen 3
    have f4 := HS5.out.blk.frozen 4
    have hne : ((bs (udpL src fp dst tp body.data.toList)).toList == s.toList) = false := ne_toList (by rw [bs_data]; exact HDIFF.out (by omega) (by simpa using d4))
    generalize bs (udpL src fp dst tp body.data.toList) = r at hne ⊢
    go_wp2_with fail
    exact bodyPost_ret (v := .tuple #[.agg (zeroGram).toArray, .int .i64 5]) (by simp [results, Try.results41, go_sem, z0, z1, z2, z3, z4, gramC, zeroGram]) rfl ⟨rfl, (((((HS5.out.write 0 _).write 1 _).write 2 _).write 3 _).write 4 _).bel⟩
  · skip
    have hUC := HUC.out
    rw [hq] at hUC
    have HU := Lib.hid hUC
    have he3 : er = 0 ∨ er = 1 ∨ er = 2 := by
      rw [← hq]
      unfold udpChk
      split
      · exact .inr (.inl rfl)
      · split
        · exact .inr (.inr rfl)
        · exact .inl rfl
    clear hUC hq
    go_enter Try.func41, Try.ntmps41
    go_upto_region 1 with fail
    rw [HW0.out]
    go_upto_region 5 with (go_at_call 119; first | (with_reducible refine (HN4.out _).mono ?_; rintro e w' ⟨rfl, nn, rfl⟩) | (with_reducible refine (HN6.out _).mono ?_; rintro e w' ⟨rfl, nn, rfl⟩))
    refine wp_region_kin_alloc 16 8 33 zeroGram (by kernel_rfl) (by kernel_rfl) lay_gram ?_
    apply Exists.intro
    refine ⟨?_, ?_, ?_⟩
    · intro X hX hne v
      simp only [List.take_succ_cons, List.take_zero, Act.put, List.setIfInBounds_toArray, List.set_cons_zero, List.set_cons_succ]
      repeat go_big_quiet_step ((go_at_call 119; first | (with_reducible exact kinX_drew hX (HN0.out _)) | (with_reducible exact kinX_drew hX (HN2.out _))))
      exact wpQuiet_nil (Eq.refl _)
    · exact fun _ _ => rfl
    intro gp w3 hb3 hp3 hK3
    simp only [List.drop_succ_cons, List.drop_zero]
    have hS3 := (HS0.out.drewN _).made hb3
    have hgl : w.heap.size < gp := Nat.lt_of_lt_of_le HS0.out.size hp3
    have hgl' : gp ≠ w.heap.size := by omega
    obtain ⟨y0, y1, y2, y3, y4⟩ := gram_cells hK3
    have g0 := hK3.frozen 0
    have g1 := hK3.frozen 1
    have g2 := hK3.frozen 2
    have g3 := hK3.frozen 3
    have g4 := hK3.frozen 4
    have HS3 := Lib.hid hS3
    have HK3 := Lib.hid hK3
    clear hS3 hK3 hb3 hp3
    go_upto_region 6 with fail
    have hK4 : Blk (((((w3.setCell ⟨gp, 0, none⟩ (Value.int IntKind.u32 src)).setCell ⟨gp, 1, none⟩ (Value.int IntKind.i64 ↑fp)).setCell ⟨gp, 2, none⟩ (Value.int IntKind.u32 dst)).setCell ⟨gp, 3, none⟩ (Value.int IntKind.i64 ↑tp)).setCell ⟨gp, 4, none⟩ (Value.string body)) gp 33 (gramC src fp dst tp body) := (((((HK3.out.set_ 0 (Value.int IntKind.u32 src)).set_ 1 (Value.int IntKind.i64 ↑fp)).set_ 2 (Value.int IntKind.u32 dst)).set_ 3 (Value.int IntKind.i64 ↑tp)).set_ 4 (Value.string body))
    have hS4 : St w (w.heap.size + 1) w.heap.size 33 zeroGram (((((w3.setCell ⟨gp, 0, none⟩ (Value.int IntKind.u32 src)).setCell ⟨gp, 1, none⟩ (Value.int IntKind.i64 ↑fp)).setCell ⟨gp, 2, none⟩ (Value.int IntKind.u32 dst)).setCell ⟨gp, 3, none⟩ (Value.int IntKind.i64 ↑tp)).setCell ⟨gp, 4, none⟩ (Value.string body)) := HS3.out.only (k := gp) hgl ((((((Only.refl (· = gp) w3).here (i := 0) (u := Value.int IntKind.u32 src)).here (i := 1) (u := Value.int IntKind.i64 ↑fp)).here (i := 2) (u := Value.int IntKind.u32 dst)).here (i := 3) (u := Value.int IntKind.i64 ↑tp)).here (i := 4) (u := Value.string body))
    generalize (((((w3.setCell ⟨gp, 0, none⟩ (Value.int IntKind.u32 src)).setCell ⟨gp, 1, none⟩ (Value.int IntKind.i64 ↑fp)).setCell ⟨gp, 2, none⟩ (Value.int IntKind.u32 dst)).setCell ⟨gp, 3, none⟩ (Value.int IntKind.i64 ↑tp)).setCell ⟨gp, 4, none⟩ (Value.string body)) = w4 at hK4 hS4 ⊢
    clear y0 y1 y2 y3 y4 g0 g1 g2 g3 g4 HK3 HS3
    obtain ⟨y0, y1, y2, y3, y4⟩ := gram_cells hK4
    have HS4 := Lib.hid hS4
    have HK4 := Lib.hid hK4
    clear hK4 hS4
    go_wp2_with fail
    refine (HUB.out _ fp tp (by omega) (by omega) (by omega) (by omega) (by have := HBS.out; omega)).mono ?_
    rintro e w5 ⟨rfl, hb5⟩
    have HS5 := Lib.hid (HS4.out.made hb5)
    have hK5 := HK4.out.below hb5 HK4.out.lt
    clear y0 y1 y2 y3 y4
    obtain ⟨y0, y1, y2, y3, y4⟩ := gram_cells hK5
    have HK5 := Lib.hid hK5
    clear hb5 hK5
    clear z0 z1 z2 z3 z4 f0 f1 f2 f3 f4
    obtain ⟨z0, z1, z2, z3, z4⟩ := gram_cells HS5.out.blk
    have f0 := HS5.out.blk.frozen 0
    have f1 := HS5.out.blk.frozen 1
    have f2 := HS5.out.blk.frozen 2
    have f3 := HS5.out.blk.frozen 3
    have f4 := HS5.out.blk.frozen 4
    have hsm : bs (udpL src fp dst tp body.data.toList) = s := by rw [HSAME.out (by omega) (by simpa using d4), bs_of]
    rw [hsm]
    clear hsm
    go_wp2_with fail
    refine (HU.out _).mono ?_
    rintro e w6 ⟨rfl, hb6⟩
    have HS6 := Lib.hid (HS5.out.made hb6)
    have hK6 := HK5.out.below hb6 HK5.out.lt
    clear y0 y1 y2 y3 y4
    obtain ⟨y0, y1, y2, y3, y4⟩ := gram_cells hK6
    have HK6 := Lib.hid hK6
    clear hb6 hK6
    clear z0 z1 z2 z3 z4 f0 f1 f2 f3 f4
    obtain ⟨z0, z1, z2, z3, z4⟩ := gram_cells HS6.out.blk
    have f0 := HS6.out.blk.frozen 0
    have f1 := HS6.out.blk.frozen 1
    have f2 := HS6.out.blk.frozen 2
    have f3 := HS6.out.blk.frozen 3
    have f4 := HS6.out.blk.frozen 4
    rcases he3 with rfl | rfl | rfl
    · go_wp2_with fail
      exact bodyPost_ret (v := .tuple #[.agg (gramC src fp dst tp body).toArray, .int .i64 0]) (by simp [results, Try.results41, go_sem, z0, z1, z2, z3, z4, gramC]) rfl ⟨rfl, (((((HS6.out.write 0 _).write 1 _).write 2 _).write 3 _).write 4 _).bel⟩
    · go_wp2_with fail
      exact bodyPost_ret (v := .tuple #[.agg (zeroGram).toArray, .int .i64 1]) (by simp [results, Try.results41, go_sem, z0, z1, z2, z3, z4, gramC, zeroGram]) rfl ⟨rfl, (((((HS6.out.write 0 _).write 1 _).write 2 _).write 3 _).write 4 _).bel⟩
    · go_wp2_with fail
      exact bodyPost_ret (v := .tuple #[.agg (zeroGram).toArray, .int .i64 2]) (by simp [results, Try.results41, go_sem, z0, z1, z2, z3, z4, gramC, zeroGram]) rfl ⟨rfl, (((((HS6.out.write 0 _).write 1 _).write 2 _).write 3 _).write 4 _).bel⟩
end Go.Proofs.Ytmbjinfeinhalaa
