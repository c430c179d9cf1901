/- Package ip: Write; the reference's. -/
import Derived.Test.YthjigajielhkfaaIpChk
import Derived.Test.YthjigajielhkfaaSumWalks
import Derived.Deep.DeepCutAuto
namespace Go.Proofs.Ythjigajielhkfaa
open Go.RowKit
set_option linter.unusedVariables false

theorem wire_Put16 (g o len cap : Nat) (cs : List Value) (n : Int) (w : World) (hB : Blk w g 5 cs) (h0 : 0 ≤ n) (h1 : n ≤ 65535) (hl : 2 ≤ len) (ho : o + 1 < cs.length) :
    Calls Try.prog 133 #[.slice (some ⟨g, o, none⟩) len cap, .int .u16 n] w fun e w' => e = .returned (.tuple #[]) ∧ Blk w' g 5 ((cs.set o (.int .u8 (n / 256))).set (o + 1) (.int .u8 (n % 256))) ∧ Only (· = g) w w' := by
  obtain ⟨u, hu⟩ : ∃ u, cs[o]? = some u := ⟨cs[o]'(by omega), List.getElem?_eq_getElem _⟩
  obtain ⟨v, hv⟩ : ∃ v, cs[o + 1]? = some v := ⟨cs[o + 1]'(by omega), List.getElem?_eq_getElem _⟩
  have c0 := hB.at_ hu
  have c1 := hB.at_ hv
  have f0 := hB.frozen o
  have f1 := hB.frozen (o + 1)
  have e1 : IntKind.u8.wrap (n / 256) = n / 256 := IntWalk.u8_in _ (by omega)
  have e2 : IntKind.u8.wrap n = n % 256 := by rw [IntKind.wrap_u8]
  have HB := Lib.hid hB
  clear hB hu hv
  go_enter Try.func133, Try.ntmps133
  go_wp2
  go_end0
  exact ⟨rfl, (HB.out.set_ _ _).set_ _ _, (Only.refl _ _).here.here⟩

/-- What stands ahead of the check sum; behind it. -/
def ipA (n id off ttl proto : Int) : List UInt8 := [byt 69, byt 0] ++ bigL n 2 ++ bigL id 2 ++ bigL off 2 ++ [byt ttl, byt proto]
def ipB (src dst : Int) : List UInt8 := bigL src 4 ++ bigL dst 4
def ipOff (dont more : Bool) (off : Int) : Int := off + (if dont = true then 16384 else 0) + (if more = true then 8192 else 0)
/-- The bytes of a packet. -/
def ipBytes (src dst proto ttl id : Int) (dont more : Bool) (off : Int) (body : List UInt8) : List UInt8 :=
  ipA (20 + body.length) id (ipOff dont more off) ttl proto ++ bigL (65535 - sumN (ipA (20 + body.length) id (ipOff dont more off) ttl proto ++ ipB src dst)) 2 ++ ipB src dst ++ body

theorem pkt_cells {g : Nat} {src dst proto ttl id : Int} {dont more : Bool} {off : Int} {body : ByteArray} {w : World} {t : TypeId} (h : Blk w g t (pktC src dst proto ttl id dont more off body)) :
    w.cell? ⟨g, 0, none⟩ = some (.int .u32 src) ∧ w.cell? ⟨g, 1, none⟩ = some (.int .u32 dst) ∧ w.cell? ⟨g, 2, none⟩ = some (.int .i64 proto) ∧ w.cell? ⟨g, 3, none⟩ = some (.int .i64 ttl) ∧ w.cell? ⟨g, 4, none⟩ = some (.int .i64 id) ∧
    w.cell? ⟨g, 5, none⟩ = some (.bool dont) ∧ w.cell? ⟨g, 6, none⟩ = some (.bool more) ∧ w.cell? ⟨g, 7, none⟩ = some (.int .i64 off) ∧ w.cell? ⟨g, 8, none⟩ = some (.string body) :=
  ⟨h.at_ rfl, h.at_ rfl, h.at_ rfl, h.at_ rfl, h.at_ rfl, h.at_ rfl, h.at_ rfl, h.at_ rfl, h.at_ rfl⟩
/-- A literal of bytes. -/
theorem Row.lit (w : World) (B : Nat) (l : List UInt8) (cs : List Value) (h : cs = cells8 l) (hB : B ≤ w.heap.size) (hl : l.length ≤ 1000) (n : Nat) (hn : n = l.length) :
    Row (w.alloc (.cells cs.toArray 5)) B (.slice (some ⟨w.heap.size, 0, none⟩) n n) l := by
  subst h hn
  refine ⟨by simp [cells8_length], .inr ⟨w.heap.size, l.length, _, rfl, hB, heap_alloc_new w _, Nat.le_refl _, by unfold maxLen; omega, by simp [cells8_length], ?_⟩⟩
  rw [Nat.mul_one]
  exact List.take_of_length_le (by simp [cells8_length])
theorem Row.below {w w' : World} {B : Nat} {v : Value} {l : List UInt8} (h : Row w B v l) (hb : Below w.heap.size w w') : Row w' B v l := by
  refine World.ownsRow.kept (row := none) h ⟨hb.os, hb.tape, hb.output, hb.size, fun k hk _ => hb.block k hk⟩ ?_
  cases hv : v.ownBlock <;> simp
/-- The row's block. -/
theorem Row.blk {w : World} {B : Nat} {v : Value} {l : List UInt8} (h : Row w B v l) (hl : 0 < l.length) :
    ∃ g cap cs, v = .slice (some ⟨g, 0, none⟩) l.length cap ∧ B ≤ g ∧ Blk w g 5 cs ∧ l.length ≤ cap ∧ cap ≤ maxLen ∧ cs.length = cap ∧ cs.take l.length = cells8 l := by
  rcases h.2 with ⟨_, h0⟩ | ⟨g, cap, cur, hv, hB, hg, hc, hm, hs, ht⟩
  · omega
  · refine ⟨g, cap, cur.toList, hv, hB, by simpa [Blk] using hg, hc, hm, by simpa using hs, by simpa using ht⟩
theorem or_16384 (n : Int) (h : 0 ≤ n) (h' : n ≤ 8191) : bits BinOp.or IntKind.u16 n 16384 = n + 16384 := by
  obtain ⟨k, rfl⟩ := Int.eq_ofNat_of_zero_le h
  have h1 := u16_or_nat k 16384 (by omega) (by omega)
  rw [Nat.or_comm, nat_join 14 16384 k (by omega) (by omega)] at h1
  rw [show (16384 : Int) = ((16384 : Nat) : Int) from rfl, h1]
  omega
theorem or_8192 (n : Int) (h : 0 ≤ n) (h' : n ≤ 8191) : bits BinOp.or IntKind.u16 n 8192 = n + 8192 := by
  obtain ⟨k, rfl⟩ := Int.eq_ofNat_of_zero_le h
  have h1 := u16_or_nat k 8192 (by omega) (by omega)
  rw [Nat.or_comm, nat_join 13 8192 k (by omega) (by omega)] at h1
  rw [show (8192 : Int) = ((8192 : Nat) : Int) from rfl, h1]
  omega
theorem or_both (n : Int) (h : 0 ≤ n) (h' : n ≤ 8191) : bits BinOp.or IntKind.u16 (n + 16384) 8192 = n + 16384 + 8192 := by
  obtain ⟨k, rfl⟩ := Int.eq_ofNat_of_zero_le h
  have h1 := u16_or_nat (16384 + k) 8192 (by omega) (by omega)
  have h2 : (16384 + k) ||| 8192 = 16384 + (8192 + k) := by
    rw [← nat_join 14 16384 k (by omega) (by omega), Nat.or_assoc, Nat.or_comm k, nat_join 13 8192 k (by omega) (by omega), nat_join 14 16384 _ (by omega) (by omega)]
  rw [h2] at h1
  rw [show (k : Int) + 16384 = ((16384 + k : Nat) : Int) from by omega, show (8192 : Int) = ((8192 : Nat) : Int) from rfl, h1]
  omega

/-- The bytes of a slice as a string. -/
theorem conv_row (w : World) (g n c : Nat) (l : List UInt8) (h : ∀ j u, (cells8 l)[j]? = some u → w.cell? ⟨g, j, none⟩ = some u) (hn : n = l.length) :
    Sem.run Try.prog (convert 156 9 (.slice (some ⟨g, 0, none⟩) n c)) w = .ok (.string (bs l)) w := by
  subst hn
  refine run_convert_bytes_back _ _ _ 5 _ _ l Try.underlying156 Try.underlying5 Try.underlying9 ?_
  intro j hj
  have := h j (.int .u8 (l[j].toNat : Int)) (by simp [cells8, hj])
  have e : (⟨g, 0, none⟩ : Addr).add j = ⟨g, j, none⟩ := by
    unfold Addr.add
    split
    · next h0 => rw [h0]
    · simp
  rw [e]
  exact this
end Go.Proofs.Ythjigajielhkfaa
