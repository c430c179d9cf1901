/- Package ip: Write; the reference's. -/
import Derived.Test.YtmbjinfeinhalaaIpChk
import Derived.Test.YtmbjinfeinhalaaSumWalks
import Derived.Deep.DeepCutAuto
namespace Go.Proofs.Ytmbjinfeinhalaa
open Go.RowKit
set_option linter.unusedVariables false

theorem wire_Put16 (g o len cap : Nat) (cs : List Value) (n : Int) (w : World) (hB : Blk w g 5 cs) (h0 : 0 ≤ n) (h1 : n ≤ 65535) (hl : 2 ≤ len) (ho : o + 1 < cs.length) :
    Calls Try.prog 99 #[.slice (some ⟨g, o, none⟩) len cap, .int .u16 n] w fun e w' => e = .returned (.tuple #[]) ∧ Blk w' g 5 ((cs.set o (.int .u8 (n / 256))).set (o + 1) (.int .u8 (n % 256))) ∧ Only (· = g) w w' := by
  obtain ⟨u, hu⟩ : ∃ u, cs[o]? = some u := ⟨cs[o]'(by omega), List.getElem?_eq_getElem _⟩
  obtain ⟨v, hv⟩ : ∃ v, cs[o + 1]? = some v := ⟨cs[o + 1]'(by omega), List.getElem?_eq_getElem _⟩
  have c0 := hB.at_ hu
  have c1 := hB.at_ hv
  have f0 := hB.frozen o
  have f1 := hB.frozen (o + 1)
  have e1 : IntKind.u8.wrap (n / 256) = n / 256 := IntWalk.u8_in _ (by omega)
  have e2 : IntKind.u8.wrap n = n % 256 := by rw [IntKind.wrap_u8]
  have HB := Lib.hid hB
  clear hB hu hv
  go_enter Try.func99, Try.ntmps99
  go_wp2
  go_end0
  exact ⟨rfl, (HB.out.set_ _ _).set_ _ _, (Only.refl _ _).here.here⟩

/-- What stands ahead of the check sum; behind it. -/
def ipA (n id off ttl proto : Int) : List UInt8 := [byt 69, byt 0] ++ bigL n 2 ++ bigL id 2 ++ bigL off 2 ++ [byt ttl, byt proto]
def ipB (src dst : Int) : List UInt8 := bigL src 4 ++ bigL dst 4
def ipOff (dont more : Bool) (off : Int) : Int := off + (if dont = true then 16384 else 0) + (if more = true then 8192 else 0)
/-- The bytes of a packet. -/
def ipBytes (src dst proto ttl id : Int) (dont more : Bool) (off : Int) (body : List UInt8) : List UInt8 :=
  ipA (20 + body.length) id (ipOff dont more off) ttl proto ++ bigL (65535 - sumN (ipA (20 + body.length) id (ipOff dont more off) ttl proto ++ ipB src dst)) 2 ++ ipB src dst ++ body

theorem pkt_cells {g : Nat} {src dst proto ttl id : Int} {dont more : Bool} {off : Int} {body : ByteArray} {w : World} {t : TypeId} (h : Blk w g t (pktC src dst proto ttl id dont more off body)) :
    w.cell? ⟨g, 0, none⟩ = some (.int .u32 src) ∧ w.cell? ⟨g, 1, none⟩ = some (.int .u32 dst) ∧ w.cell? ⟨g, 2, none⟩ = some (.int .i64 proto) ∧ w.cell? ⟨g, 3, none⟩ = some (.int .i64 ttl) ∧ w.cell? ⟨g, 4, none⟩ = some (.int .i64 id) ∧
    w.cell? ⟨g, 5, none⟩ = some (.bool dont) ∧ w.cell? ⟨g, 6, none⟩ = some (.bool more) ∧ w.cell? ⟨g, 7, none⟩ = some (.int .i64 off) ∧ w.cell? ⟨g, 8, none⟩ = some (.string body) :=
  ⟨h.at_ rfl, h.at_ rfl, h.at_ rfl, h.at_ rfl, h.at_ rfl, h.at_ rfl, h.at_ rfl, h.at_ rfl, h.at_ rfl⟩
/-- A literal of bytes. -/
theorem Row.lit (w : World) (B : Nat) (l : List UInt8) (cs : List Value) (h : cs = cells8 l) (hB : B ≤ w.heap.size) (hl : l.length ≤ 1000) (n : Nat) (hn : n = l.length) :
    Row (w.alloc (.cells cs.toArray 5)) B (.slice (some ⟨w.heap.size, 0, none⟩) n n) l := by
  subst h hn
  refine ⟨by simp [cells8_length], .inr ⟨w.heap.size, l.length, _, rfl, hB, heap_alloc_new w _, Nat.le_refl _, by unfold maxLen; omega, by simp [cells8_length], ?_⟩⟩
  rw [Nat.mul_one]
  exact List.take_of_length_le (by simp [cells8_length])
theorem Row.below {w w' : World} {B : Nat} {v : Value} {l : List UInt8} (h : Row w B v l) (hb : Below w.heap.size w w') : Row w' B v l := by
  refine World.ownsRow.kept (row := none) h ⟨hb.os, hb.tape, hb.output, hb.size, fun k hk _ => hb.block k hk⟩ ?_
  cases hv : v.ownBlock <;> simp
/-- The row's block. -/
theorem Row.blk {w : World} {B : Nat} {v : Value} {l : List UInt8} (h : Row w B v l) (hl : 0 < l.length) :
    ∃ g cap cs, v = .slice (some ⟨g, 0, none⟩) l.length cap ∧ B ≤ g ∧ Blk w g 5 cs ∧ l.length ≤ cap ∧ cap ≤ maxLen ∧ cs.length = cap ∧ cs.take l.length = cells8 l := by
  rcases h.2 with ⟨_, h0⟩ | ⟨g, cap, cur, hv, hB, hg, hc, hm, hs, ht⟩
  · omega
  · refine ⟨g, cap, cur.toList, hv, hB, by simpa [Blk] using hg, hc, hm, by simpa using hs, by simpa using ht⟩
theorem or_16384 (n : Int) (h : 0 ≤ n) (h' : n ≤ 8191) : bits BinOp.or IntKind.u16 n 16384 = n + 16384 := by
  obtain ⟨k, rfl⟩ := Int.eq_ofNat_of_zero_le h
  have h1 := u16_or_nat k 16384 (by omega) (by omega)
  rw [Nat.or_comm, nat_join 14 16384 k (by omega) (by omega)] at h1
  rw [show (16384 : Int) = ((16384 : Nat) : Int) from rfl, h1]
  omega
theorem or_8192 (n : Int) (h : 0 ≤ n) (h' : n ≤ 8191) : bits BinOp.or IntKind.u16 n 8192 = n + 8192 := by
  obtain ⟨k, rfl⟩ := Int.eq_ofNat_of_zero_le h
  have h1 := u16_or_nat k 8192 (by omega) (by omega)
  rw [Nat.or_comm, nat_join 13 8192 k (by omega) (by omega)] at h1
  rw [show (8192 : Int) = ((8192 : Nat) : Int) from rfl, h1]
  omega
theorem or_both (n : Int) (h : 0 ≤ n) (h' : n ≤ 8191) : bits BinOp.or IntKind.u16 (n + 16384) 8192 = n + 16384 + 8192 := by
  obtain ⟨k, rfl⟩ := Int.eq_ofNat_of_zero_le h
  have h1 := u16_or_nat (16384 + k) 8192 (by omega) (by omega)
  have h2 : (16384 + k) ||| 8192 = 16384 + (8192 + k) := by
    rw [← nat_join 14 16384 k (by omega) (by omega), Nat.or_assoc, Nat.or_comm k, nat_join 13 8192 k (by omega) (by omega), nat_join 14 16384 _ (by omega) (by omega)]
  rw [h2] at h1
  rw [show (k : Int) + 16384 = ((16384 + k : Nat) : Int) from by omega, show (8192 : Int) = ((8192 : Nat) : Int) from rfl, h1]
  omega

/-- The bytes of a slice as a string. -/
theorem conv_row (w : World) (g n c : Nat) (l : List UInt8) (h : ∀ j u, (cells8 l)[j]? = some u → w.cell? ⟨g, j, none⟩ = some u) (hn : n = l.length) :
    Sem.run Try.prog (convert 123 9 (.slice (some ⟨g, 0, none⟩) n c)) w = .ok (.string (bs l)) w := by
  subst hn
  refine run_convert_bytes_back _ _ _ 5 _ _ l Try.underlying123 Try.underlying5 Try.underlying9 ?_
  intro j hj
  have := h j (.int .u8 (l[j].toNat : Int)) (by simp [cells8, hj])
  have e : (⟨g, 0, none⟩ : Addr).add j = ⟨g, j, none⟩ := by
    unfold Addr.add
    split
    · next h0 => rw [h0]
    · simp
  rw [e]
  exact this

set_option maxRecDepth 100000 in
set_option maxHeartbeats 1000000 in
theorem ip_Write_ok (src dst proto ttl id : Int) (dont more : Bool) (off : Int) (body : ByteArray) (w : World) (h0 : 0 ≤ src) (h0' : src ≤ 4294967295) (h1 : 0 ≤ dst) (h1' : dst ≤ 4294967295) (h2 : 0 ≤ proto) (h2' : proto ≤ 255) (h3 : 0 ≤ ttl) (h3' : ttl ≤ 255)
    (h4 : 0 ≤ id) (h4' : id ≤ 65535) (h7 : 0 ≤ off) (h7' : off ≤ 8191) (hb : body.size ≤ 1400) :
    Calls Try.prog 15 #[.agg (pktC src dst proto ttl id dont more off body).toArray] w fun e w' => e = .returned (.tuple #[.string (bs (ipBytes src dst proto ttl id dont more off body.data.toList)), .int .i64 0]) ∧ Below w.heap.size w w' := by
  have hC : ∀ w, Calls Try.prog 17 #[.agg (pktC src dst proto ttl id dont more off body).toArray] w fun e w' => e = .returned (.int .i64 0) ∧ Below w.heap.size w w' := by
    intro w
    have := ip_Check src dst proto ttl id dont more off body w (by omega)
    rw [show ipChk proto ttl id off body.size = 0 by unfold ipChk outB; simp; omega] at this
    exact this
  have HC := Lib.hid hC
  obtain ⟨o1, ho1⟩ : ∃ o1, o1 = off + (if dont = true then 16384 else 0) := ⟨_, rfl⟩
  obtain ⟨o, ho⟩ : ∃ o, o = ipOff dont more off := ⟨_, rfl⟩
  have hor1 : (dont = false → off = o1) ∧ (dont = true → bits BinOp.or IntKind.u16 off 16384 = o1) := by
    rw [ho1, or_16384 off h7 h7']
    cases dont <;> simp
  have hor2 : (more = false → o1 = o) ∧ (more = true → bits BinOp.or IntKind.u16 o1 8192 = o) := by
    rw [ho, ho1]
    unfold ipOff
    cases dont <;> cases more <;> simp [or_both off h7 h7', or_8192 off h7 h7']
  have hob1 : 0 ≤ o := by rw [ho]; unfold ipOff; split <;> split <;> omega
  have hob2 : o ≤ 65535 := by rw [ho]; unfold ipOff; split <;> split <;> omega
  have HOR1 := Lib.hid hor1
  have HOR2 := Lib.hid hor2
  have HO := Lib.hid ho
  clear hor1 hor2 ho1
  unfold pktC
  obtain ⟨i, hi, hz0, hz1, hz2⟩ := info_parts info_u8
  clear hC ho
  go_enter Try.func15, Try.ntmps15
  go_wp2_with fail
  have hS0 := St.start w 24 (pktC src dst proto ttl id dont more off body)
  change St _ _ _ _ _ (w.alloc (Obj.cells #[Value.int IntKind.u32 src, Value.int IntKind.u32 dst, Value.int IntKind.i64 proto, Value.int IntKind.i64 ttl, Value.int IntKind.i64 id, Value.bool dont, Value.bool more, Value.int IntKind.i64 off, Value.string body] 24)) at hS0
  generalize w.alloc (Obj.cells #[Value.int IntKind.u32 src, Value.int IntKind.u32 dst, Value.int IntKind.i64 proto, Value.int IntKind.i64 ttl, Value.int IntKind.i64 id, Value.bool dont, Value.bool more, Value.int IntKind.i64 off, Value.string body] 24) = W0 at hS0 ⊢
  generalize hBB : w.heap.size + 1 = B at hS0 ⊢
  generalize hg : w.heap.size = g at hS0 ⊢
  have HG := Lib.hid hg
  clear hg hBB
  refine (HC.out _).mono ?_
  rintro e w1 ⟨rfl, hb1⟩
  have hS1 := hS0.made hb1
  obtain ⟨k0, k1, k2, k3, k4, k5, k6, k7, k8⟩ := pkt_cells hS1.blk
  have hgs := hS1.size
  have hr2 := Row.lit w1 B [byt 69, byt 0] [.int .u8 69, .int .u8 0] rfl hS1.le (by decide) 2 rfl
  have HR := Lib.hid hr2
  have HS := Lib.hid (hS1.alloc (.cells #[.int .u8 69, .int .u8 0] 5))
  clear hr2 hS0 hS1 hb1
  go_upto_if 16 with fail
  go_cut [5] (fun t wx => t = .int .u16 o1 ∧ wx = w1)
  case first =>
    cases dont with
    | true =>
      go_wp2_with fail
      go_meet
      exact ⟨by have h := HOR1.out; simp at h; rw [h], rfl⟩
    | false =>
      go_wp2_with fail
      go_meet
      exact ⟨by have h := HOR1.out; simp at h; rw [h], rfl⟩
  case rest =>
  obtain ⟨rfl, rfl⟩ := hcut
  go_upto_if 20 with fail
  go_cut [5] (fun t wx => t = .int .u16 o ∧ wx = wc)
  case first =>
    cases more with
    | true =>
      go_wp2_with fail
      go_meet
      exact ⟨by have h := HOR2.out; simp at h; rw [h], rfl⟩
    | false =>
      go_wp2_with fail
      go_meet
      exact ⟨by have h := HOR2.out; simp at h; rw [h], rfl⟩
  case rest =>
  obtain ⟨rfl, rfl⟩ := hcut
  go_wp2_with fail
  refine (wire_Append16 B _ [byt 69, byt 0] _ _ HS.out.le HR.out (by decide) (by omega) (by omega)).mono ?_
  rintro e w2 ⟨v2, rfl, hv2, hb2⟩
  have hS2 := HS.out.go hb2
  clear HS HR k0 k1 k2 k3 k4 k5 k6 k7 k8 hgs hb2
  obtain ⟨k0, k1, k2, k3, k4, k5, k6, k7, k8⟩ := pkt_cells hS2.blk
  have HR2 := Lib.hid hv2
  have HS2 := Lib.hid hS2
  clear hv2 hS2 k5 k6 k7
  go_wp2_with fail
  refine (wire_Append16 B v2 _ _ _ HS2.out.le HR2.out (by simp [bigL_length]) (by omega) (by omega)).mono ?_
  rintro e w3 ⟨v3, rfl, hv3, hb3⟩
  have hS3 := HS2.out.go hb3
  clear HS2 HR2 k0 k1 k2 k3 k4 k8 hb3
  obtain ⟨k0, k1, k2, k3, k4, k5, k6, k7, k8⟩ := pkt_cells hS3.blk
  have HR3 := Lib.hid hv3
  have HS3 := Lib.hid hS3
  clear hv3 hS3 k5 k6 k7
  go_wp2_with fail
  refine (wire_Append16 B v3 _ _ _ HS3.out.le HR3.out (by simp [bigL_length]) (by omega) (by omega)).mono ?_
  rintro e w4 ⟨v4, rfl, hv4, hb4⟩
  have hS4 := HS3.out.go hb4
  clear HS3 HR3 k0 k1 k2 k3 k4 k8 hb4
  obtain ⟨k0, k1, k2, k3, k4, k5, k6, k7, k8⟩ := pkt_cells hS4.blk
  have HR4 := Lib.hid hv4
  have HS4 := Lib.hid hS4
  clear hv4 hS4 k5 k6 k7
  have hgs := HS4.out.size
  generalize hL4 : [byt 69, byt 0] ++ bigL (20 + ↑body.size) 2 ++ bigL id 2 ++ bigL o 2 = L4 at HR4
  have hl4 : L4.length = 8 := by rw [← hL4]; simp [bigL_length]
  have HL4 := Lib.hid hL4
  have HLL := Lib.hid hl4
  clear hL4 hl4
  go_wp2_with (at_builtin; refine wpList_append_own _ rfl (.tmp 39) (.tmp 46) 123 rfl B 5 i (.int .u8 0) 1 1 Try.underlying123 hi hz0 hz1 hz2 rfl (by decide) v4 L4.length (cells8 L4) rfl (World.ownsRow.alloc HR4.out _) ⟨w4.heap.size, 0, none⟩ 4 4 [.int .u8 ttl, .int .u8 proto, .int .u8 0, .int .u8 0] rfl rfl ?c1 ?c2 ?c3 ?c4 ?c5 ?_)
  case c1 => exact new_cells w4 _ _
  case c2 =>
    intro u hu
    simp at hu
    rcases hu with rfl | rfl | rfl <;> rfl
  case c3 => have := HLL.out; unfold maxLen; omega
  case c4 => have := HLL.out; omega
  case c5 => have := HS4.out.le; simp; omega
  intro v5 w5 hown hgrow _
  have hv5 : Row w5 B v5 (L4 ++ [byt ttl, byt proto, 0, 0]) := by
    show World.ownsRow _ _ _ _ _ _ _
    rw [cells8_append, List.length_append]
    have e : cells8 [byt ttl, byt proto, 0, 0] = [.int .u8 ttl, .int .u8 proto, .int .u8 0, .int .u8 0] := by simp [cells8, u8_nat h2 h2', u8_nat h3 h3']
    rw [e]
    exact hown
  have hS5 := (HS4.out.alloc (.cells #[.int .u8 ttl, .int .u8 proto, .int .u8 0, .int .u8 0] 5)).go (below_grown hgrow (fun k hk => (HR4.out.lt k hk).1) (by have := HS4.out.le; simp; omega))
  clear hown hgrow HR4 HS4 k0 k1 k2 k3 k4 k8 hgs
  obtain ⟨k0, k1, k2, k3, k4, k5, k6, k7, k8⟩ := pkt_cells hS5.blk
  have HR5 := Lib.hid hv5
  have HS5 := Lib.hid hS5
  clear hv5 hS5 k2 k3 k4 k5 k6 k7
  go_wp2_with fail
  refine (wire_Append32 B v5 _ _ _ HS5.out.le HR5.out (by rw [List.length_append, HLL.out]; simp) (by omega) (by omega)).mono ?_
  rintro e w6 ⟨v6, rfl, hv6, hb6⟩
  have hS6 := HS5.out.go hb6
  clear HS5 HR5 k0 k1 k8 hb6
  obtain ⟨k0, k1, k2, k3, k4, k5, k6, k7, k8⟩ := pkt_cells hS6.blk
  have HR6 := Lib.hid hv6
  have HS6 := Lib.hid hS6
  clear hv6 hS6 k2 k3 k4 k5 k6 k7
  go_wp2_with fail
  refine (wire_Append32 B v6 _ _ _ HS6.out.le HR6.out (by rw [List.length_append, List.length_append, HLL.out, bigL_length]; simp) (by omega) (by omega)).mono ?_
  rintro e w7 ⟨v7, rfl, hv7, hb7⟩
  have hS7 := HS6.out.go hb7
  clear HS6 HR6 k0 k1 k8 hb7
  obtain ⟨k0, k1, k2, k3, k4, k5, k6, k7, k8⟩ := pkt_cells hS7.blk
  clear k0 k1 k2 k3 k4 k5 k6 k7
  have e7 : L4 ++ [byt ttl, byt proto, 0, 0] ++ bigL src 4 ++ bigL dst 4 = ipA (20 + ↑body.size) id o ttl proto ++ [0, 0] ++ ipB src dst := by
    rw [← HL4.out]
    simp [ipA, ipB]
  rw [e7] at hv7
  generalize hA : ipA (20 + ↑body.size) id o ttl proto = A at hv7
  generalize hBB : ipB src dst = BB at hv7
  have hAl : A.length = 10 := by rw [← hA]; simp [ipA, bigL_length]
  have hBl : BB.length = 8 := by rw [← hBB]; simp [ipB, bigL_length]
  have hL20 : (A ++ [0, 0] ++ BB).length = 20 := by simp [hAl, hBl]
  obtain ⟨L, hL⟩ : ∃ L, L = A ++ [0, 0] ++ BB := ⟨_, rfl⟩
  rw [← hL] at hv7 hL20
  obtain ⟨g7, cap7, cs7, hvv, hBg, hK7, hc1, hc2, hcl, hct⟩ := hv7.blk (by omega)
  rw [hL20] at hvv hc1 hct
  have HS7 := Lib.hid hS7
  have HA := Lib.hid hA
  have HBB := Lib.hid hBB
  have HAl := Lib.hid hAl
  have HBl := Lib.hid hBl
  have HK7 := Lib.hid hK7
  have HCT := Lib.hid hct
  have HCL := Lib.hid hcl
  have HL := Lib.hid hL
  have HL20 := Lib.hid hL20
  clear hv7 hS7 e7 HL4 HLL hA hBB hAl hBl hL20 hK7 hct hcl hL
  subst hvv
  unfold maxLen at hc2
  have hcv : ∀ q : Kin w7, Sem.run Try.prog (convert 123 9 (.slice (some ⟨g7, 0, none⟩) 20 cap7)) q.at_ = .ok (.string (bs L)) q.at_ := by
    intro q
    refine conv_row _ _ _ _ _ (fun j u hu => ?_) HL20.out.symm
    have hq := (HK7.out.below q.below HK7.out.lt).cell j
    rw [hq]
    rw [← HCT.out, List.getElem?_take] at hu
    split at hu
    · exact hu
    · cases hu
  have hsl : ∀ q : Kin w7, (Instr.slice 123 (.slice (some ⟨g7, 0, none⟩) 20 cap7) (some (.int .i64 10)) none none).run Try.prog q.at_ = .ok (.slice (some ⟨g7, 10, none⟩) 10 (cap7 - 10)) q.at_ := fun q => run_from8 g7 0 20 cap7 10 (by omega) (by omega) q.at_
  have hsum := Lib.hid (fun w => sum_Check (bs L) w (by rw [bs_size, HL20.out]; omega))
  go_wp2_with fail
  refine wp_region_kin_tail 5 (by kernel_rfl) (by kernel_rfl) ?_
  simp only [List.take_succ_cons, List.take_zero, List.drop_succ_cons, List.drop_zero]
  repeat go_big_quiet_step ((go_at_call 100; exact kin_drew (hsum.out _)))
  refine wpQuiet_nil ?_
  intro q
  have hS8 := HS7.out.made (q.below.mono (Nat.le_refl _))
  have hK8 := HK7.out.below q.below HK7.out.lt
  clear hcv hsl k8
  generalize q.at_ = w8 at hS8 hK8 ⊢
  have hle := sumN_le (bs L).data.toList
  rw [bs_data] at hle ⊢
  have HS8 := Lib.hid hS8
  have HK8 := Lib.hid hK8
  clear hS8 hK8
  go_wp2_with fail
  refine (wire_Put16 g7 10 10 _ cs7 _ w8 HK8.out (by omega) (by omega) (by omega) (by rw [HCL.out]; omega)).mono ?_
  rintro e w9 ⟨rfl, hK9, ho9⟩
  have hS9 := HS8.out.only hBg ho9
  obtain ⟨k0, k1, k2, k3, k4, k5, k6, k7, k8⟩ := pkt_cells hS9.blk
  clear k0 k1 k2 k3 k4 k5 k6 k7
  have hcv9 : Sem.run Try.prog (convert 123 9 (.slice (some ⟨g7, 0, none⟩) 20 cap7)) w9 = .ok (.string (bs (A ++ bigL (65535 - ↑(sumN L)) 2 ++ BB))) w9 := by
    refine conv_row _ _ _ _ _ (fun j u hu => ?_) (by simp [HAl.out, HBl.out, bigL_length])
    rw [hK9.cell j]
    exact put_cells A BB cs7 _ 10 (by omega) (by omega) HAl.out (by rw [HBl.out, ← HL.out]; exact HCT.out) j u hu
  generalize hL2 : A ++ bigL (65535 - ↑(sumN L)) 2 ++ BB = L2 at hcv9
  have HS9 := Lib.hid hS9
  have HL2 := Lib.hid hL2
  clear hS9 hL2 hK9 ho9 HK8 HS8
  have hz2 : (bs L2).size ≤ 20 := by rw [bs_size, ← HL2.out]; simp [HAl.out, HBl.out, bigL_length]
  go_wp2
  go_ret2
  refine ⟨?_, HS9.out.bel.mono (by rw [HG.out]; omega)⟩
  have e : bs L2 ++ body = bs (ipBytes src dst proto ttl id dont more off body.data.toList) := by
    rw [← bs_of body, bs_append, bs_data, ← HL2.out, HL.out, sum_gap A BB (by rw [HAl.out]), ← HA.out, ← HBB.out, HO.out, Lib.size_eq body]
    rfl
  rw [e]
  rfl
end Go.Proofs.Ytmbjinfeinhalaa
