/- Package ip: Check; the reference's. -/
import Derived.Test.YthjigajielhkfaaWire
import Derived.Test.YthjigajielhkfaaQuietC
namespace Go.Proofs.Ythjigajielhkfaa
open Go.RowKit
set_option linter.unusedVariables false

/-- The cells of a packet. -/
def pktC (src dst proto ttl id : Int) (dont more : Bool) (off : Int) (body : ByteArray) : List Value :=
  [.int .u32 src, .int .u32 dst, .int .i64 proto, .int .i64 ttl, .int .i64 id, .bool dont, .bool more, .int .i64 off, .string body]
/-- Is n not from 0 to m? -/
def outB (n m : Int) : Bool := decide (n < 0) || decide (m < n)
theorem outB_true {n m : Int} (h : outB n m = true) : n < 0 ∨ m < n := by simpa [outB] using h
theorem outB_false {n m : Int} (h : outB n m = false) : 0 ≤ n ∧ n ≤ m := by simpa [outB] using h
/-- Check: which error. -/
def ipChk (proto ttl id off : Int) (n : Nat) : Int :=
  if outB proto 255 = true ∨ outB ttl 255 = true ∨ outB id 65535 = true ∨ outB off 8191 = true then 1 else if 1400 < n then 2 else 0

theorem ip_outside (n m : Int) (w : World) : Calls Try.prog 183 #[.int .i64 n, .int .i64 m] w fun e w' => e = .returned (.bool (outB n m)) ∧ w = w' := by
  by_cases h : n < 0
  · go_enter Try.func183, Try.ntmps183
    go_wp2
    go_ret
    exact ⟨ret_bool (by simp [outB, h]), rfl⟩
  · go_enter Try.func183, Try.ntmps183
    go_wp2
    go_ret
    exact ⟨ret_bool (by simp [outB]; omega), rfl⟩
theorem ref_outside (n a b : Int) (w : World) :
    Calls Try.prog 138 #[.int .i64 n, .int .i64 a, .int .i64 b] w fun e w' => e = .returned (.bool (decide (n < a) || decide (b < n))) ∧ w = w' := by
  by_cases h : n < a
  · go_enter Try.func138, Try.ntmps138
    go_wp2
    go_ret
    exact ⟨ret_bool (by simp [h]), rfl⟩
  · go_enter Try.func138, Try.ntmps138
    go_wp2
    go_ret
    exact ⟨ret_bool (by simp; omega), rfl⟩
theorem ref_outside0 (n b : Int) (w : World) : Calls Try.prog 138 #[.int .i64 n, .int .i64 0, .int .i64 b] w fun e w' => e = .returned (.bool (outB n b)) ∧ w = w' := ref_outside n 0 b w

theorem chk_cases (proto ttl id off : Int) (n : Nat) :
    (outB proto 255 = true ∧ Hid (ipChk proto ttl id off n = 1)) ∨ (outB proto 255 = false ∧ outB ttl 255 = true ∧ Hid (ipChk proto ttl id off n = 1)) ∨
    (outB proto 255 = false ∧ outB ttl 255 = false ∧ outB id 65535 = true ∧ Hid (ipChk proto ttl id off n = 1)) ∨
    (outB proto 255 = false ∧ outB ttl 255 = false ∧ outB id 65535 = false ∧ outB off 8191 = true ∧ Hid (ipChk proto ttl id off n = 1)) ∨
    (outB proto 255 = false ∧ outB ttl 255 = false ∧ outB id 65535 = false ∧ outB off 8191 = false ∧ 1400 < n ∧ Hid (ipChk proto ttl id off n = 2)) ∨
    (outB proto 255 = false ∧ outB ttl 255 = false ∧ outB id 65535 = false ∧ outB off 8191 = false ∧ n ≤ 1400 ∧ Hid (ipChk proto ttl id off n = 0)) := by
  unfold ipChk Hid
  cases outB proto 255 <;> cases outB ttl 255 <;> cases outB id 65535 <;> cases outB off 8191 <;> simp
  omega

theorem ip_Check (src dst proto ttl id : Int) (dont more : Bool) (off : Int) (body : ByteArray) (w : World) (hb : body.size ≤ 9223372036854775807) :
    Calls Try.prog 123 #[.agg (pktC src dst proto ttl id dont more off body).toArray] w fun e w' => e = .returned (.int .i64 (ipChk proto ttl id off body.size)) ∧ Below w.heap.size w w' := by
  unfold pktC
  rcases chk_cases proto ttl id off body.size with ⟨h1, HE⟩ | ⟨h1, h2, HE⟩ | ⟨h1, h2, h3, HE⟩ | ⟨h1, h2, h3, h4, HE⟩ | ⟨h1, h2, h3, h4, h5, HE⟩ | ⟨h1, h2, h3, h4, h5, HE⟩
  all_goals
    go_enter Try.func123, Try.ntmps123
    go_wp2_with (go_at_call 183; refine (ip_outside _ _ _).mono ?_; rintro e w' ⟨rfl, rfl⟩)
    go_ret
    exact ⟨ret_int HE.out.symm, by go_grown⟩

theorem ref_IpCheck (src dst proto ttl id : Int) (dont more : Bool) (off : Int) (body : ByteArray) (w : World) (hb : body.size ≤ 9223372036854775807) :
    Calls Try.prog 126 #[.agg (pktC src dst proto ttl id dont more off body).toArray] w fun e w' => e = .returned (.int .i64 (ipChk proto ttl id off body.size)) ∧ Below w.heap.size w w' := by
  unfold pktC
  rcases chk_cases proto ttl id off body.size with ⟨h1, HE⟩ | ⟨h1, h2, HE⟩ | ⟨h1, h2, h3, HE⟩ | ⟨h1, h2, h3, h4, HE⟩ | ⟨h1, h2, h3, h4, h5, HE⟩ | ⟨h1, h2, h3, h4, h5, HE⟩
  all_goals
    go_enter Try.func126, Try.ntmps126
    go_wp2_with (go_at_call 138; refine (ref_outside0 _ _ _).mono ?_; rintro e w' ⟨rfl, rfl⟩)
    go_ret
    exact ⟨ret_int HE.out.symm, by go_grown⟩
end Go.Proofs.Ythjigajielhkfaa
