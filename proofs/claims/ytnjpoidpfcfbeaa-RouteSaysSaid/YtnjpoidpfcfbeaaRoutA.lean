/- Routes: what is done with the document's list, plainly. -/
import Derived.Test.YtnjpoidpfcfbeaaLs0
import Derived.Test.YtnjpoidpfcfbeaaSyFo
namespace Go.Proofs.Ytnjpoidpfcfbeaa
open Go.RowKit Sy
set_option linter.unusedVariables false
set_option linter.unusedSimpArgs false

def rLv : List Kd := [.int .u32, .int .i64, .int .i64]
abbrev Rws := List (List Value)
def rAd (r : List Value) : Int := gI .u32 r 0
def rBi (r : List Value) : Int := gI .i64 r 1
def rVi (r : List Value) : Int := gI .i64 r 2
def mkR (a n v : Int) : List Value := [.int .u32 a, .int .i64 n, .int .i64 v]
def key (r : List Value) : Int := rAd r * 64 + rBi r
def wid (k : Nat) : Int := 2 ^ (32 - k)
theorem wid_pos (k : Nat) : 1 ≤ wid k := by
  unfold wid
  have := Nat.one_le_two_pow (n := 32 - k)
  exact_mod_cast this
theorem wid_half {k : Nat} (h : k < 32) : wid k = 2 * wid (k + 1) := by
  unfold wid
  rw [show 32 - k = (32 - (k + 1)) + 1 by omega, Int.pow_succ]
  omega
theorem wid_0 : wid 0 = 4294967296 := by decide
theorem wid_32 : wid 32 = 1 := by decide
theorem wid_dvd {j k : Nat} (h : k ≤ j) : wid j ∣ wid k := by
  unfold wid
  have := Nat.pow_dvd_pow 2 (show 32 - j ≤ 32 - k by omega)
  exact_mod_cast this
theorem wid_le (k : Nat) : wid k ≤ 4294967296 := by
  have := Int.le_of_dvd (by decide) (wid_dvd (Nat.zero_le k) : wid k ∣ wid 0)
  rwa [wid_0] at this
/-- What the document's check of a prefix answers. -/
def chkN (a n : Int) : Int := if n < 0 ∨ 32 < n then 1 else if a % wid n.toNat = 0 then 0 else 4
theorem chk_0 {a n : Int} (h : chkN a n = 0) : 0 ≤ n ∧ n ≤ 32 ∧ a % wid n.toNat = 0 := by
  unfold chkN at h
  split at h
  · omega
  · split at h
    · exact ⟨by omega, by omega, ‹_›⟩
    · omega
structure RRow (r : List Value) : Prop where
  ok : kAll rLv r
  n0 : 0 ≤ rBi r
  n1 : rBi r ≤ 32
  al : rAd r % wid (rBi r).toNat = 0
theorem rAd_bd (r : List Value) : 0 ≤ rAd r ∧ rAd r ≤ 4294967295 := gI_bd (k := .u32) r 0
theorem rBi_bd (r : List Value) : -9223372036854775808 ≤ rBi r ∧ rBi r ≤ 9223372036854775807 := gI_bd (k := .i64) r 1
theorem rVi_bd (r : List Value) : -9223372036854775808 ≤ rVi r ∧ rVi r ≤ 9223372036854775807 := gI_bd (k := .i64) r 2
theorem RRow.chk {r : List Value} (h : RRow r) : chkN (rAd r) (rBi r) = 0 := by
  have := h.n0
  have := h.n1
  unfold chkN
  rw [if_neg (by omega), if_pos h.al]
theorem gI_lit {k : IntKind} {a : Int} {l : List Value} {i : Nat} (h : l.getD i (.bool false) = .int k a) (h0 : kMin k ≤ a) (h1 : a ≤ kMax k) : gI k l i = a := by
  unfold gI
  rw [h]
  exact wrap_in h0 h1
theorem mkR_g {a n v : Int} (a0 : 0 ≤ a) (a1 : a ≤ 4294967295) (n0 : 0 ≤ n) (n1 : n ≤ 32) (v0 : -9223372036854775808 ≤ v) (v1 : v ≤ 9223372036854775807) : rAd (mkR a n v) = a ∧ rBi (mkR a n v) = n ∧ rVi (mkR a n v) = v :=
  ⟨gI_lit rfl a0 a1, gI_lit rfl (show (-9223372036854775808 : Int) ≤ n by omega) (show n ≤ (9223372036854775807 : Int) by omega), gI_lit rfl v0 v1⟩
theorem mkR_row {a n v : Int} (a0 : 0 ≤ a) (a1 : a ≤ 4294967295) (hc : chkN a n = 0) (v0 : -9223372036854775808 ≤ v) (v1 : v ≤ 9223372036854775807) : RRow (mkR a n v) := by
  obtain ⟨n0, n1, al⟩ := chk_0 hc
  obtain ⟨e0, e1, e2⟩ := mkR_g a0 a1 n0 n1 v0 v1
  refine ⟨⟨⟨_, rfl, wf_of a0 a1⟩, ⟨_, rfl, wf_of (show (-9223372036854775808 : Int) ≤ n by omega) (show n ≤ (9223372036854775807 : Int) by omega)⟩, ⟨_, rfl, wf_of v0 v1⟩, trivial⟩, ?_, ?_, ?_⟩
  · rw [e1]; exact n0
  · rw [e1]; exact n1
  · rw [e0, e1]; exact al
theorem row_mk {r : List Value} (h : kAll rLv r) : r = mkR (rAd r) (rBi r) (rVi r) := by
  obtain ⟨v0, r0, rfl, h0, h⟩ := kAll_cons h
  obtain ⟨v1, r1, rfl, h1, h⟩ := kAll_cons h
  obtain ⟨v2, r2, rfl, h2, h⟩ := kAll_cons h
  rw [kAll_nil h]
  show [v0, v1, v2] = [Value.int .u32 (getV (.int .u32) v0).i, .int .i64 (getV (.int .i64) v1).i, .int .i64 (getV (.int .i64) v2).i]
  rw [getV_int h0, getV_int h1, getV_int h2]
def isP (a n : Int) (r : List Value) : Bool := decide (rAd r = a ∧ rBi r = n)
theorem isP_key {a n : Int} {r : List Value} (h : isP a n r = true) : key r = a * 64 + n := by
  have := of_decide_eq_true h
  unfold key
  rw [this.1, this.2]
theorem key_isP {a n : Int} {r : List Value} (hr : RRow r) (n0 : 0 ≤ n) (n1 : n ≤ 32) (h : key r = a * 64 + n) : isP a n r = true := by
  have := hr.n0
  have := hr.n1
  unfold key at h
  exact decide_eq_true ⟨by omega, by omega⟩
def adC (L : Rws) (a n : Int) : Int := if chkN a n ≠ 0 then chkN a n else if L.any (isP a n) then 8 else if 63 < (L.length : Int) then 9 else 0
def insL (L : Rws) (a n v : Int) : Rws := L.filter (fun r => decide (key r < a * 64 + n)) ++ mkR a n v :: L.filter (fun r => decide (a * 64 + n < key r))
def adR (L : Rws) (a n v : Int) : Rws := if adC L a n = 0 then insL L a n v else L
def drC (L : Rws) (a n : Int) : Int := if chkN a n ≠ 0 then chkN a n else if L.any (isP a n) then 0 else 7
def drR (L : Rws) (a n : Int) : Rws := if drC L a n = 0 then L.filter (fun r => !isP a n r) else L
def alF (r : List Value) : List Value := [.int .u32 (rAd r), .int .i64 (rBi r)]
def alR (L : Rws) : Rws := L.map alF
def hasB (x : Int) (r : List Value) : Bool := decide (chkN (rAd r) (rBi r) = 0 ∧ rAd r ≤ x ∧ x ≤ rAd r + wid (rBi r).toNat - 1)
def betB (b : Option (List Value)) (r : List Value) : Bool := match b with | none => true | some q => decide (rBi q < rBi r)
def fiS (x : Int) (b : Option (List Value)) (r : List Value) : Option (List Value) := if hasB x r && betB b r then some r else b
def fiO (x : Int) (L : Rws) : Option (List Value) := L.foldl (fiS x) none
def fiV (b : Option (List Value)) : Int := match b with | none => 0 | some r => rVi r
def fiA (b : Option (List Value)) : Int := match b with | none => 0 | some r => rAd r
def fiN (b : Option (List Value)) : Int := match b with | none => 0 | some r => rBi r
structure RtOk (L : Rws) : Prop where
  good : ∀ r ∈ L, RRow r
  srt : L.Pairwise fun x y => key x < key y
  l64 : L.length ≤ 64
theorem fold_skip {x : Int} : ∀ {c : Rws} {b : Option (List Value)}, (∀ r ∈ c, hasB x r = false) → c.foldl (fiS x) b = b
  | [], b, _ => rfl
  | r :: c, b, h => by
    have h0 := h r (List.mem_cons_self ..)
    show c.foldl (fiS x) (fiS x b r) = b
    rw [show fiS x b r = b by unfold fiS; rw [h0]; rfl]
    exact fold_skip fun q hq => h q (List.mem_cons_of_mem _ hq)
theorem filter_all {p : List Value → Bool} {l : Rws} (h : ∀ r ∈ l, p r = true) : l.filter p = l := List.filter_eq_self.2 h
theorem filter_none {p : List Value → Bool} {l : Rws} (h : ∀ r ∈ l, p r = false) : l.filter p = [] := List.filter_eq_nil_iff.2 fun r hr => by rw [h r hr]; decide
theorem ins_mid {pre mid post : Rws} {a n v : Int} (h1 : ∀ r ∈ pre, key r < a * 64 + n) (h2 : ∀ r ∈ mid, a * 64 + n < key r) (h3 : ∀ r ∈ post, a * 64 + n < key r) :
    insL (pre ++ (mid ++ post)) a n v = pre ++ (mkR a n v :: (mid ++ post)) := by
  unfold insL
  have e1 : (pre ++ (mid ++ post)).filter (fun r => decide (key r < a * 64 + n)) = pre := by
    rw [List.filter_append, List.filter_append, filter_all fun r hr => decide_eq_true (h1 r hr), filter_none fun r hr => decide_eq_false (by have := h2 r hr; omega), filter_none fun r hr => decide_eq_false (by have := h3 r hr; omega)]
    simp
  have e2 : (pre ++ (mid ++ post)).filter (fun r => decide (a * 64 + n < key r)) = mid ++ post := by
    rw [List.filter_append, List.filter_append, filter_none fun r hr => decide_eq_false (by have := h1 r hr; omega), filter_all fun r hr => decide_eq_true (h2 r hr), filter_all fun r hr => decide_eq_true (h3 r hr)]
    rfl
  rw [e1, e2]
theorem not_isP {a n : Int} {r : List Value} (h : key r ≠ a * 64 + n) : isP a n r = false := by
  cases q : isP a n r with
  | false => rfl
  | true => exact absurd (isP_key q) h
theorem del_mid {pre mid post : Rws} {a n : Int} {x : List Value} (hx : isP a n x = true) (h1 : ∀ r ∈ pre, key r < a * 64 + n) (h2 : ∀ r ∈ mid, a * 64 + n < key r) (h3 : ∀ r ∈ post, a * 64 + n < key r) :
    (pre ++ (x :: mid ++ post)).filter (fun r => !isP a n r) = pre ++ (mid ++ post) := by
  rw [List.filter_append, List.filter_append, List.filter_cons, hx]
  rw [filter_all (l := pre) fun r hr => by rw [not_isP (by have := h1 r hr; omega)]; rfl, filter_all (l := mid) fun r hr => by rw [not_isP (by have := h2 r hr; omega)]; rfl, filter_all (l := post) fun r hr => by rw [not_isP (by have := h3 r hr; omega)]; rfl]
  rfl
theorem any_mid {pre mid post : Rws} {a n : Int} (h1 : ∀ r ∈ pre, key r < a * 64 + n) (h2 : ∀ r ∈ mid, a * 64 + n < key r) (h3 : ∀ r ∈ post, a * 64 + n < key r) : (pre ++ (mid ++ post)).any (isP a n) = false := by
  rw [List.any_eq_false]
  intro r hr
  rcases List.mem_append.1 hr with hr | hr
  · rw [not_isP (by have := h1 r hr; omega)]; decide
  rcases List.mem_append.1 hr with hr | hr
  · rw [not_isP (by have := h2 r hr; omega)]; decide
  · rw [not_isP (by have := h3 r hr; omega)]; decide
theorem len_two (K : Int) : ∀ L : Rws, (L.filter (fun r => decide (key r < K))).length + (L.filter (fun r => decide (K < key r))).length ≤ L.length
  | [] => Nat.le_refl _
  | r :: L => by
    have ih := len_two K L
    rw [List.filter_cons, List.filter_cons]
    by_cases h1 : key r < K
    · rw [decide_eq_true h1, decide_eq_false (show ¬ K < key r by omega)]
      simp only [if_true, Bool.false_eq_true, if_false, List.length_cons]
      omega
    · rw [decide_eq_false h1]
      simp only [Bool.false_eq_true, if_false, List.length_cons]
      split
      · simp only [List.length_cons]; omega
      · omega
theorem adR_ok {L : Rws} (h : RtOk L) {a n v : Int} (a0 : 0 ≤ a) (a1 : a ≤ 4294967295) (v0 : -9223372036854775808 ≤ v) (v1 : v ≤ 9223372036854775807) : RtOk (adR L a n v) := by
  unfold adR
  split
  · rename_i hc
    unfold adC at hc
    split at hc
    · rename_i q; exact absurd hc q
    split at hc
    · omega
    split at hc
    · omega
    rename_i q1 q2 q3
    have hc0 : chkN a n = 0 := by
      by_cases q : chkN a n = 0
      · exact q
      · exact absurd q q1
    obtain ⟨n0, n1, al⟩ := chk_0 hc0
    obtain ⟨e0, e1, e2⟩ := mkR_g a0 a1 n0 n1 v0 v1
    have hk : key (mkR a n v) = a * 64 + n := by unfold key; rw [e0, e1]
    refine ⟨fun r hr => ?_, ?_, ?_⟩
    · unfold insL at hr
      rcases List.mem_append.1 hr with hr | hr
      · exact h.good r (List.mem_filter.1 hr).1
      rcases List.mem_cons.1 hr with rfl | hr
      · exact mkR_row a0 a1 hc0 v0 v1
      · exact h.good r (List.mem_filter.1 hr).1
    · unfold insL
      rw [List.pairwise_append, List.pairwise_cons]
      refine ⟨h.srt.filter _, ⟨fun r hr => ?_, h.srt.filter _⟩, fun r hr s hs => ?_⟩
      · have := of_decide_eq_true (List.mem_filter.1 hr).2
        omega
      · have h1 := of_decide_eq_true (List.mem_filter.1 hr).2
        rcases List.mem_cons.1 hs with rfl | hs
        · omega
        · have := of_decide_eq_true (List.mem_filter.1 hs).2
          omega
    · unfold insL
      have := len_two (a * 64 + n) L
      rw [List.length_append, List.length_cons]
      omega
  · exact h
theorem drR_ok {L : Rws} (h : RtOk L) (a n : Int) : RtOk (drR L a n) := by
  unfold drR
  split
  · exact ⟨fun r hr => h.good r (List.mem_filter.1 hr).1, h.srt.filter _, Nat.le_trans (List.length_filter_le ..) h.l64⟩
  · exact h
theorem RtOk.nil : RtOk [] := ⟨fun r hr => (by cases hr), .nil, by decide⟩
end Go.Proofs.Ytnjpoidpfcfbeaa
/- Routes: the prefix's checks, and a bit of an address. -/
namespace Go.Proofs.Ytnjpoidpfcfbeaa
open Go.RowKit Sy
set_option linter.unusedVariables false
set_option linter.unusedSimpArgs false

theorem band1 {x : Int} (h0 : 0 ≤ x) (h1 : x ≤ 4294967295) : bits .and .u32 x 1 = x % 2 := by
  have h1 : (BitVec.ofInt 32 x &&& BitVec.ofInt 32 1).toNat = (x % 4294967296).toNat % 2 := by
    rw [BitVec.toNat_and]
    show (x % 4294967296).toNat &&& 1 = _
    exact Nat.and_two_pow_sub_one_eq_mod _ 1
  show IntKind.u32.wrap ((BitVec.ofInt 32 x &&& BitVec.ofInt 32 1).toNat : Int) = _
  rw [h1]
  have h2 : (((x % 4294967296).toNat % 2 : Nat) : Int) = x % 2 := by omega
  rw [h2]
  exact wrap_in (show (0 : Int) ≤ _ by omega) (show _ ≤ (4294967295 : Int) by omega)
theorem msk : ∀ m : Fin 33, (~~~ (BitVec.ofInt 32 (4294967295 * 2 ^ (m : Nat) % 4294967296))).toNat = 2 ^ (m : Nat) - 1 := by decide
theorem bmask {a : Int} {m : Nat} (hm : m ≤ 32) (h0 : 0 ≤ a) (h1 : a ≤ 4294967295) : bits .andNot .u32 a (4294967295 * 2 ^ m % 4294967296) = a % 2 ^ m := by
  have e1 : (BitVec.ofInt 32 a &&& ~~~ (BitVec.ofInt 32 (4294967295 * 2 ^ m % 4294967296))).toNat = (a % 4294967296).toNat % 2 ^ m := by
    rw [BitVec.toNat_and]
    have := msk ⟨m, by omega⟩
    simp only [] at this
    rw [this]
    show (a % 4294967296).toNat &&& _ = _
    exact Nat.and_two_pow_sub_one_eq_mod _ m
  show IntKind.u32.wrap ((BitVec.ofInt 32 a &&& ~~~ (BitVec.ofInt 32 (4294967295 * 2 ^ m % 4294967296))).toNat : Int) = _
  rw [e1]
  have h2 : (((a % 4294967296).toNat % 2 ^ m : Nat) : Int) = a % 2 ^ m := by
    rw [Int.natCast_emod]
    have : (((a % 4294967296).toNat : Nat) : Int) = a := by omega
    rw [this]
    congr 1
  rw [h2]
  have p : (0 : Int) < 2 ^ m := by have := Nat.two_pow_pos m; exact_mod_cast this
  have q1 := Int.emod_nonneg a (Int.ne_of_gt p)
  have q2 : a % 2 ^ m ≤ a := by
    have := Int.mul_ediv_add_emod a (2 ^ m)
    have q : 0 ≤ 2 ^ m * (a / 2 ^ m) := Int.mul_nonneg (Int.le_of_lt p) (Int.ediv_nonneg h0 (Int.le_of_lt p))
    omega
  exact wrap_in (show (0 : Int) ≤ _ by omega) (show _ ≤ (4294967295 : Int) by omega)
theorem bor1 {a : Int} {m : Nat} (hm : m ≤ 31) (h0 : 0 ≤ a) (h1 : a ≤ 4294967295) (ha : a % 2 ^ (m + 1) = 0) : bits .or .u32 a (2 ^ m) = a + 2 ^ m ∧ a + 2 ^ m ≤ 4294967295 := by
  obtain ⟨n, rfl⟩ : ∃ n : Nat, a = (n : Int) := ⟨a.toNat, by omega⟩
  have ha' : n % 2 ^ (m + 1) = 0 := by exact_mod_cast ha
  have hn : n < 2 ^ 32 := by omega
  have hlt : 2 ^ m < 2 ^ (m + 1) := Nat.pow_lt_pow_right (by decide) (by omega)
  have hor : n ||| 2 ^ m = n + 2 ^ m := by
    have := Nat.two_pow_add_eq_or_of_lt hlt (n / 2 ^ (m + 1))
    have e : 2 ^ (m + 1) * (n / 2 ^ (m + 1)) = n := by have := Nat.div_add_mod n (2 ^ (m + 1)); omega
    rw [e] at this
    exact this.symm
  have hp : 2 ^ m < 2 ^ 32 := Nat.pow_lt_pow_right (by decide) (by omega)
  have hs : n + 2 ^ m < 2 ^ 32 := by rw [← hor]; exact Nat.or_lt_two_pow hn hp
  have e1 : (BitVec.ofInt 32 (n : Int) ||| BitVec.ofInt 32 ((2 ^ m : Nat) : Int)).toNat = n + 2 ^ m := by
    rw [BitVec.toNat_or, ← hor]
    congr 1
    · show ((n : Int) % 4294967296).toNat = n
      omega
    · show (((2 ^ m : Nat) : Int) % 4294967296).toNat = 2 ^ m
      omega
  have e2 : ((2 : Int) ^ m) = ((2 ^ m : Nat) : Int) := by exact_mod_cast rfl
  rw [e2]
  refine ⟨?_, by omega⟩
  show IntKind.u32.wrap ((BitVec.ofInt 32 (n : Int) ||| BitVec.ofInt 32 ((2 ^ m : Nat) : Int)).toNat : Int) = _
  rw [e1]
  exact wrap_in (show (0 : Int) ≤ _ by omega) (show _ ≤ (4294967295 : Int) by omega)
/-- The functions that the letters' terms name. -/
def hsN (a n x : Int) : Bool := decide (chkN a n = 0 ∧ a ≤ x ∧ x ≤ a + wid n.toNat - 1)
def pkN (z : Dn) : Int := gI .i64 (z.c.getD 0 []) 0
def pkV (z : Dn) : Int := gI .i64 (z.c.getD 0 []) 1
def rtF : Nat → Dn → Dn → Dn → Dn := fun n x y z => match n with
  | 7 => dI (ixOf (isP y.i z.i) x.c)
  | 20 => dI (chkN x.i y.i)
  | 21 => dI (adC x.c y.i z.i)
  | 22 => dC (adR x.c y.i (pkN z) (pkV z))
  | 23 => dI (drC x.c y.i z.i)
  | 24 => dC (drR x.c y.i z.i)
  | 25 => dC (alR x.c)
  | 26 => dI (fiV (fiO y.i x.c))
  | 27 => dI (fiA (fiO y.i x.c))
  | 28 => dI (fiN (fiO y.i x.c))
  | 29 => dB (fiO y.i x.c).isSome
  | 31 => dB (hsN x.i y.i z.i)
  | 32 => dB x.c.isEmpty
  | _ => x
def pfA : List SV := [.one (.agg [.int .u32 (.iv 20), .int .i64 (.iv 21)])]
def pfBs : List Bd := [u32B 20, i64B 21]
def pfSt : Sy.St := ⟨[], [], ⟨pfBs, []⟩, 30⟩
def pfE (a n x : Int) : Env := { mkEnv0 [] [] [] [] with i := fun j => if j = 20 then a else if j = 21 then n else if j = 22 then x else 0, f := rtF }
set_option maxRecDepth 100000 in
theorem ck_run : smR Try.prog Try.f86 4 (run Try.prog [] 10 400 4 (.code (bodyOf Try.f86)) (enterS Try.f86 pfA pfSt)) = some [.ret (.one (.c (.int .i64 (.il 1)))) [] [.lt (.il 32) (.iv 21), (.not (.lt (.iv 21) (.il 0)))], .ret (.one (.c (.int .i64 (.il 4)))) [] [.not (.eq (.bop .andNot .u32 (.iv 20) (.md (.mul (.il 4294967295) (.pw (.sub (.il 32) (.iv 21)))) (.il 4294967296))) (.il 0)), (.not (.lt (.il 32) (.iv 21))), (.not (.lt (.iv 21) (.il 0)))], .ret (.one (.c (.int .i64 (.il 0)))) [] [(.eq (.bop .andNot .u32 (.iv 20) (.md (.mul (.il 4294967295) (.pw (.sub (.il 32) (.iv 21)))) (.il 4294967296))) (.il 0)), (.not (.lt (.il 32) (.iv 21))), (.not (.lt (.iv 21) (.il 0)))], .ret (.one (.c (.int .i64 (.il 1)))) [] [.lt (.iv 21) (.il 0)]] := by kernel_rfl
set_option maxRecDepth 100000 in
theorem rc_run : smR Try.prog Try.f89 4 (run Try.prog [] 10 400 4 (.code (bodyOf Try.f89)) (enterS Try.f89 pfA pfSt)) = some [.ret (.one (.c (.int .i64 (.il 1)))) [] [.lt (.il 32) (.iv 21), (.not (.lt (.iv 21) (.il 0)))], .ret (.one (.c (.int .i64 (.il 4)))) [] [.not (.eq (.md (.iv 20) (.pw (.sub (.il 32) (.iv 21)))) (.il 0)), (.not (.lt (.il 32) (.iv 21))), (.not (.lt (.iv 21) (.il 0)))], .ret (.one (.c (.int .i64 (.il 0)))) [] [(.eq (.md (.iv 20) (.pw (.sub (.il 32) (.iv 21)))) (.il 0)), (.not (.lt (.il 32) (.iv 21))), (.not (.lt (.iv 21) (.il 0)))], .ret (.one (.c (.int .i64 (.il 1)))) [] [.lt (.iv 21) (.il 0)]] := by kernel_rfl
set_option maxRecDepth 100000 in
theorem bt_run : smR Try.prog Try.f88 4 (run Try.prog [] 10 400 4 (.code (bodyOf Try.f88)) (enterS Try.f88 [.one (.c (.int .u32 (.iv 20))), .one (.c (.int .i64 (.iv 21)))] ⟨[], [], ⟨[u32B 20, ⟨.iv 21, 0, 31⟩], []⟩, 30⟩)) = some [.ret (.one (.c (.int .i64 (.bop .and .u32 (.dv (.iv 20) (.pw (.sub (.il 31) (.iv 21)))) (.il 1))))) [] []] := by kernel_rfl
def hsA : List SV := pfA ++ [.one (.c (.int .u32 (.iv 22)))]
def hsSt : Sy.St := ⟨[], [], ⟨u32B 22 :: pfBs, []⟩, 30⟩
set_option maxRecDepth 100000 in
theorem hs_run : smR Try.prog Try.f95 4 (run Try.prog [] 10 400 4 (.code (bodyOf Try.f95)) (enterS Try.f95 hsA hsSt)) = some [.ret (.one (.c (.bool (.bl false)))) [] [.lt (.il 32) (.iv 21), (.not (.lt (.iv 21) (.il 0)))], .ret (.one (.c (.bool (.bl false)))) [] [.not (.eq (.md (.iv 20) (.pw (.sub (.il 32) (.iv 21)))) (.il 0)), (.not (.lt (.il 32) (.iv 21))), (.not (.lt (.iv 21) (.il 0)))], .ret (.one (.c (.bool (.le (.iv 22) (.add (.add (.iv 20) (.pw (.sub (.il 32) (.iv 21)))) (.il (-1))))))) [] [.le (.iv 20) (.iv 22), (.eq (.md (.iv 20) (.pw (.sub (.il 32) (.iv 21)))) (.il 0)), (.not (.lt (.il 32) (.iv 21))), (.not (.lt (.iv 21) (.il 0)))], .ret (.one (.c (.bool (.bl false)))) [] [.not (.le (.iv 20) (.iv 22)), (.eq (.md (.iv 20) (.pw (.sub (.il 32) (.iv 21)))) (.il 0)), (.not (.lt (.il 32) (.iv 21))), (.not (.lt (.iv 21) (.il 0)))], .ret (.one (.c (.bool (.bl false)))) [] [.lt (.iv 21) (.il 0)]] := by kernel_rfl
theorem pf_bds {a n x : Int} (a0 : 0 ≤ a) (a1 : a ≤ 4294967295) (n0 : -9223372036854775808 ≤ n) (n1 : n ≤ 9223372036854775807) : bdsP (pfE a n x) pfBs := ⟨⟨a0, a1⟩, ⟨n0, n1⟩, trivial⟩
theorem wid_of {n : Int} (h0 : 0 ≤ n) (h1 : n ≤ 32) : (2 : Int) ^ (32 - n).toNat = wid n.toNat := by
  unfold wid
  congr 1
  omega
def pfV (a n : Int) : Value := .agg #[.int .u32 a, .int .i64 n]
theorem ck_calls {a n : Int} (a0 : 0 ≤ a) (a1 : a ≤ 4294967295) (n0 : -9223372036854775808 ≤ n) (n1 : n ≤ 9223372036854775807) (w : World) : Calls Try.prog 86 #[pfV a n] w (RetP fun v w' => v = .int .i64 (chkN a n) ∧ Below w.heap.size w w') := by
  have hM : Md (pfE a n 0) (fun _ => False) w (fun _ => 0) 4 pfSt (fun _ => 0) ⟨#[], []⟩ w := Sy.Md.start (cxP (pf_bds a0 a1 n0 n1) trivial)
  refine calls_sm (B := ⟨pfE a n 0, fun _ => False, w, fun _ => 0, 4⟩) (sp := []) (fun i => rfl) (fun q hq => by cases hq) 10 400 Try.func86 rfl pfA pfSt _ 4 rfl ck_run hM (R := fun v w' => v = .int .i64 (chkN a n) ∧ Below w.heap.size w w') ⟨?_, ?_, ?_, ?_, trivial⟩ rfl
  all_goals
    intro hpc β w2 hH
    refine ⟨?_, Sy.Only.below_all hH.only⟩
    replace hpc : pcs (pfE a n 0) _ := hpc
    simp only [pcs, t_lt, t_le, t_eq, t_not, i_iv, i_il, and_true] at hpc
    change _ = Value.int .i64 (chkN a n)
    show Value.int .i64 _ = _
    unfold chkN
  · change 32 < n ∧ ¬ n < 0 at hpc
    rw [if_pos (by omega)]; rfl
  · obtain ⟨q0, q1, q2⟩ := hpc
    change ¬ 32 < n at q1
    change ¬ n < 0 at q2
    change ¬ bits .andNot .u32 a (4294967295 * 2 ^ (32 - n).toNat % 4294967296) = 0 at q0
    rw [bmask (by omega) a0 a1, wid_of (by omega) (by omega)] at q0
    rw [if_neg (by omega), if_neg q0]; rfl
  · obtain ⟨q0, q1, q2⟩ := hpc
    change ¬ 32 < n at q1
    change ¬ n < 0 at q2
    change bits .andNot .u32 a (4294967295 * 2 ^ (32 - n).toNat % 4294967296) = 0 at q0
    rw [bmask (by omega) a0 a1, wid_of (by omega) (by omega)] at q0
    rw [if_neg (by omega), if_pos q0]; rfl
  · change n < 0 at hpc
    rw [if_pos (by omega)]; rfl
theorem rc_calls {a n : Int} (a0 : 0 ≤ a) (a1 : a ≤ 4294967295) (n0 : -9223372036854775808 ≤ n) (n1 : n ≤ 9223372036854775807) (w : World) : Calls Try.prog 89 #[pfV a n] w (RetP fun v w' => v = .int .i64 (chkN a n) ∧ Below w.heap.size w w') := by
  have hM : Md (pfE a n 0) (fun _ => False) w (fun _ => 0) 4 pfSt (fun _ => 0) ⟨#[], []⟩ w := Sy.Md.start (cxP (pf_bds a0 a1 n0 n1) trivial)
  refine calls_sm (B := ⟨pfE a n 0, fun _ => False, w, fun _ => 0, 4⟩) (sp := []) (fun i => rfl) (fun q hq => by cases hq) 10 400 Try.func89 rfl pfA pfSt _ 4 rfl rc_run hM (R := fun v w' => v = .int .i64 (chkN a n) ∧ Below w.heap.size w w') ⟨?_, ?_, ?_, ?_, trivial⟩ rfl
  all_goals
    intro hpc β w2 hH
    refine ⟨?_, Sy.Only.below_all hH.only⟩
    replace hpc : pcs (pfE a n 0) _ := hpc
    simp only [pcs, t_lt, t_le, t_eq, t_not, i_iv, i_il, and_true] at hpc
    show Value.int .i64 _ = _
    unfold chkN
  · change 32 < n ∧ ¬ n < 0 at hpc
    rw [if_pos (by omega)]; rfl
  · obtain ⟨q0, q1, q2⟩ := hpc
    change ¬ 32 < n at q1
    change ¬ n < 0 at q2
    change ¬ a % 2 ^ (32 - n).toNat = 0 at q0
    rw [wid_of (by omega) (by omega)] at q0
    rw [if_neg (by omega), if_neg q0]; rfl
  · obtain ⟨q0, q1, q2⟩ := hpc
    change ¬ 32 < n at q1
    change ¬ n < 0 at q2
    change a % 2 ^ (32 - n).toNat = 0 at q0
    rw [wid_of (by omega) (by omega)] at q0
    rw [if_neg (by omega), if_pos q0]; rfl
  · change n < 0 at hpc
    rw [if_pos (by omega)]; rfl
set_option maxRecDepth 100000 in
theorem hs_calls {a n x : Int} (a0 : 0 ≤ a) (a1 : a ≤ 4294967295) (n0 : -9223372036854775808 ≤ n) (n1 : n ≤ 9223372036854775807) (x0 : 0 ≤ x) (x1 : x ≤ 4294967295) (w : World) : Calls Try.prog 95 #[pfV a n, .int .u32 x] w (RetP fun v w' => v = .bool (hsN a n x) ∧ Below w.heap.size w w') := by
  have hM : Md (pfE a n x) (fun _ => False) w (fun _ => 0) 4 hsSt (fun _ => 0) ⟨#[], []⟩ w := Sy.Md.start (cxP ⟨⟨x0, x1⟩, pf_bds a0 a1 n0 n1⟩ trivial)
  refine calls_sm (B := ⟨pfE a n x, fun _ => False, w, fun _ => 0, 4⟩) (sp := []) (fun i => rfl) (fun q hq => by cases hq) 10 400 Try.func95 rfl hsA hsSt _ 4 rfl hs_run hM (R := fun v w' => v = .bool (hsN a n x) ∧ Below w.heap.size w w') ⟨?_, ?_, ?_, ?_, ?_, trivial⟩ rfl
  all_goals
    intro hpc β w2 hH
    refine ⟨?_, Sy.Only.below_all hH.only⟩
    replace hpc : pcs (pfE a n x) _ := hpc
    simp only [pcs, t_lt, t_le, t_eq, t_not, i_iv, i_il, and_true] at hpc
    show Value.bool _ = _
    unfold hsN chkN
  · change 32 < n ∧ ¬ n < 0 at hpc
    rw [if_pos (by omega), decide_eq_false (by omega)]; rfl
  · obtain ⟨q0, q1, q2⟩ := hpc
    change ¬ 32 < n at q1
    change ¬ n < 0 at q2
    change ¬ a % 2 ^ (32 - n).toNat = 0 at q0
    rw [wid_of (by omega) (by omega)] at q0
    rw [if_neg (by omega), if_neg q0, decide_eq_false (by omega)]; rfl
  · obtain ⟨q3, q0, q1, q2⟩ := hpc
    change a ≤ x at q3
    change ¬ 32 < n at q1
    change ¬ n < 0 at q2
    change a % 2 ^ (32 - n).toNat = 0 at q0
    rw [wid_of (by omega) (by omega)] at q0
    rw [if_neg (by omega), if_pos q0]
    show Value.bool (decide (x ≤ a + 2 ^ (32 - n).toNat + (-1))) = _
    rw [wid_of (by omega) (by omega)]
    congr 1
    exact decide_eq_decide.2 ⟨fun h => ⟨rfl, q3, by omega⟩, fun h => by omega⟩
  · obtain ⟨q3, q0, q1, q2⟩ := hpc
    change ¬ a ≤ x at q3
    rw [decide_eq_false (by omega)]; rfl
  · change n < 0 at hpc
    rw [if_pos (by omega), decide_eq_false (by omega)]; rfl
set_option maxRecDepth 100000 in
theorem bt_calls {a k : Int} (a0 : 0 ≤ a) (a1 : a ≤ 4294967295) (k0 : 0 ≤ k) (k1 : k ≤ 31) (w : World) : Calls Try.prog 88 #[.int .u32 a, .int .i64 k] w (RetP fun v w' => v = .int .i64 (a / 2 ^ (31 - k).toNat % 2) ∧ Below w.heap.size w w') := by
  have hM : Md (pfE a k 0) (fun _ => False) w (fun _ => 0) 4 ⟨[], [], ⟨[u32B 20, ⟨.iv 21, 0, 31⟩], []⟩, 30⟩ (fun _ => 0) ⟨#[], []⟩ w := Sy.Md.start (cxP ⟨⟨a0, a1⟩, ⟨k0, k1⟩, trivial⟩ trivial)
  refine calls_sm (B := ⟨pfE a k 0, fun _ => False, w, fun _ => 0, 4⟩) (sp := []) (fun i => rfl) (fun q hq => by cases hq) 10 400 Try.func88 rfl [.one (.c (.int .u32 (.iv 20))), .one (.c (.int .i64 (.iv 21)))] ⟨[], [], ⟨[u32B 20, ⟨.iv 21, 0, 31⟩], []⟩, 30⟩ _ 4 rfl bt_run hM (R := fun v w' => v = .int .i64 (a / 2 ^ (31 - k).toNat % 2) ∧ Below w.heap.size w w') ⟨?_, trivial⟩ rfl
  intro hpc β w2 hH
  refine ⟨?_, Sy.Only.below_all hH.only⟩
  show Value.int .i64 (bits .and .u32 (a / 2 ^ (31 - k).toNat) 1) = _
  have p : (0 : Int) < 2 ^ (31 - k).toNat := by have := Nat.two_pow_pos (31 - k).toNat; exact_mod_cast this
  have h1 := Int.ediv_nonneg a0 (Int.le_of_lt p)
  have h2 : a / 2 ^ (31 - k).toNat ≤ a := Int.ediv_le_self _ a0
  rw [band1 h1 (by omega)]
/-! In letters. -/
def inU (c : Cx) (x : Tm) : List Tm := need c (.le (.il 0) x) ++ need c (.le x (.il 4294967295))
def inI (c : Cx) (x : Tm) : List Tm := need c (.le (.il (-9223372036854775808)) x) ++ need c (.le x (.il 9223372036854775807))
theorem inU_ok {ρ : Env} {c : Cx} (hc : c.ok ρ) {x : Tm} (h : Sy.Met ρ (inU c x)) : 0 ≤ (den ρ x).i ∧ (den ρ x).i ≤ 4294967295 := ⟨le_of (need_ok hc h.l), le_of (need_ok hc h.r)⟩
theorem inI_ok {ρ : Env} {c : Cx} (hc : c.ok ρ) {x : Tm} (h : Sy.Met ρ (inI c x)) : -9223372036854775808 ≤ (den ρ x).i ∧ (den ρ x).i ≤ 9223372036854775807 := ⟨le_of (need_ok hc h.l), le_of (need_ok hc h.r)⟩
def ckPre (c : Cx) : List SV → Option (List Tm)
  | [.one (.agg [.int .u32 a, .int .i64 n])] => some (inU c a ++ inI c n)
  | _ => none
def ckRes (c : Cx) : List SV → Option (SV × List Bd)
  | [.one (.agg [.int .u32 a, .int .i64 n])] => some (.one (.c (.int .i64 (.ap 20 a n (.il 0)))), [⟨.ap 20 a n (.il 0), 0, 4⟩])
  | _ => none
def ckSp : Sy.Spec := pureSpec 86 ckPre ckRes
def rcSp : Sy.Spec := pureSpec 89 ckPre ckRes
theorem chkN_bd (a n : Int) : 0 ≤ chkN a n ∧ chkN a n ≤ 4 := by
  unfold chkN
  split
  · omega
  · split <;> omega
theorem ckG_ok {ρ : Env} (hf : ρ.f = rtF) {fn : FuncId} (h : ∀ {a n : Int}, 0 ≤ a → a ≤ 4294967295 → -9223372036854775808 ≤ n → n ≤ 9223372036854775807 → ∀ w, Calls Try.prog fn #[pfV a n] w (RetP fun v w' => v = .int .i64 (chkN a n) ∧ Below w.heap.size w w')) : (pureSpec fn ckPre ckRes).Ok Try.prog ρ := by
  refine pureSpec_ok fun c xs m v bs hc hpre hres hm => ?_
  unfold ckPre at hpre
  split at hpre
  · rename_i a n
    injection hpre with hpre
    subst hpre
    injection hres with hres
    injection hres with h1 h2
    subst h1 h2
    obtain ⟨a0, a1⟩ := inU_ok hc hm.l
    obtain ⟨n0, n1⟩ := inI_ok hc hm.r
    have e : (den ρ (.ap 20 a n (.il 0))).i = chkN (den ρ a).i (den ρ n).i := by
      show (ρ.f 20 _ _ _).i = _
      rw [hf]; rfl
    refine ⟨fun y hy => ?_, fun β w => (h a0 a1 n0 n1 w).mono ?_⟩
    · rw [List.mem_singleton.1 hy]
      show (0 : Int) ≤ (den ρ (.ap 20 a n (.il 0))).i ∧ (den ρ (.ap 20 a n (.il 0))).i ≤ 4
      rw [e]
      exact chkN_bd _ _
    · rintro e' w' ⟨v, rfl, rfl, hb⟩
      refine ⟨?_, hb⟩
      show _ = Ending.returned (.int .i64 (den ρ (.ap 20 a n (.il 0))).i)
      rw [e]
  · cases hpre
theorem ckSp_ok {ρ : Env} (hf : ρ.f = rtF) : ckSp.Ok Try.prog ρ := ckG_ok hf fun a0 a1 n0 n1 w => ck_calls a0 a1 n0 n1 w
theorem rcSp_ok {ρ : Env} (hf : ρ.f = rtF) : rcSp.Ok Try.prog ρ := ckG_ok hf fun a0 a1 n0 n1 w => rc_calls a0 a1 n0 n1 w
def hsPre (c : Cx) : List SV → Option (List Tm)
  | [.one (.agg [.int .u32 a, .int .i64 n]), .one (.c (.int .u32 x))] => some (inU c a ++ (inI c n ++ inU c x))
  | _ => none
def hsRes (c : Cx) : List SV → Option (SV × List Bd)
  | [.one (.agg [.int .u32 a, .int .i64 n]), .one (.c (.int .u32 x))] => some (.one (.c (.bool (.ap 31 a n x))), [])
  | _ => none
def hsSp : Sy.Spec := pureSpec 95 hsPre hsRes
theorem hsSp_ok {ρ : Env} (hf : ρ.f = rtF) : hsSp.Ok Try.prog ρ := by
  refine pureSpec_ok fun c xs m v bs hc hpre hres hm => ?_
  unfold hsPre at hpre
  split at hpre
  · rename_i a n x
    injection hpre with hpre
    subst hpre
    injection hres with hres
    injection hres with h1 h2
    subst h1 h2
    obtain ⟨a0, a1⟩ := inU_ok hc hm.l
    obtain ⟨n0, n1⟩ := inI_ok hc hm.r.l
    obtain ⟨x0, x1⟩ := inU_ok hc hm.r.r
    refine ⟨fun y hy => (by cases hy), fun β w => (hs_calls a0 a1 n0 n1 x0 x1 w).mono ?_⟩
    rintro e' w' ⟨v, rfl, rfl, hb⟩
    refine ⟨?_, hb⟩
    show _ = Ending.returned (.bool (ρ.f 31 (den ρ a) (den ρ n) (den ρ x)).b)
    rw [hf]; rfl
  · cases hpre
/-- The bit of letter 20 at the place k is d. -/
def btPre (k : Nat) (c : Cx) : List SV → Option (List Tm)
  | [.one (.c (.int .u32 (.iv 20))), .one (.c (.int .i64 (.iv n)))] => if Nat.beq n k then some (need c (.le (.iv k) (.il 31))) else none
  | _ => none
def btSp (d : Bool) (k : Nat) : Sy.Spec := pureSpec 88 (btPre k) (fun _ xs => some (.one (.c (.int .i64 (.il (bif d then 1 else 0)))), []))
theorem btSp_ok {ρ : Env} {d : Bool} {k : Nat} (a0 : 0 ≤ ρ.i 20) (a1 : ρ.i 20 ≤ 4294967295) (k0 : 0 ≤ ρ.i k) (hd : ρ.i k ≤ 31 → ρ.i 20 / 2 ^ (31 - ρ.i k).toNat % 2 = bif d then 1 else 0) : (btSp d k).Ok Try.prog ρ := by
  refine pureSpec_ok fun c xs m v bs hc hpre hres hm => ?_
  unfold btPre at hpre
  split at hpre
  · rename_i n
    split at hpre
    · rename_i q
      have := Nat.eq_of_beq_eq_true q
      subst this
      injection hpre with hpre
      subst hpre
      injection hres with hres
      injection hres with h1 h2
      subst h1 h2
      have k1 : ρ.i n ≤ 31 := le_of (need_ok hc hm)
      refine ⟨fun y hy => (by cases hy), fun β w => (bt_calls a0 a1 k0 k1 w).mono ?_⟩
      rintro e' w' ⟨v, rfl, rfl, hb⟩
      refine ⟨?_, hb⟩
      show _ = Ending.returned (.int .i64 (bif d then 1 else 0))
      rw [hd k1]
    · cases hpre
  · cases hpre
theorem bit_of {a ak : Int} {k : Nat} (hk : k < 32) (al : wid k ∣ ak) (l0 : ak ≤ a) (l1 : a < ak + wid k) (a0 : 0 ≤ ak) : a / 2 ^ (31 - (k : Int)).toNat % 2 = bif decide (ak + wid (k + 1) ≤ a) then 1 else 0 := by
  have e : (2 : Int) ^ (31 - (k : Int)).toNat = wid (k + 1) := by
    unfold wid
    congr 1
    omega
  rw [e]
  have hh := wid_half hk
  have hw := wid_pos (k + 1)
  obtain ⟨q, rfl⟩ := al
  rw [hh] at l0 l1 ⊢
  generalize wid (k + 1) = W at *
  have e1 : 2 * W * q = W * (2 * q) := by rw [Int.mul_comm 2 W, Int.mul_assoc]
  rw [e1] at l0 l1 ⊢
  obtain ⟨r, hr⟩ : ∃ r, a = r + W * (2 * q) := ⟨a - W * (2 * q), by omega⟩
  subst hr
  rw [Int.add_mul_ediv_left _ _ (by omega)]
  by_cases h : r < W
  · rw [Int.ediv_eq_zero_of_lt (by omega) h, decide_eq_false (by omega)]
    show (0 + 2 * q) % 2 = 0
    omega
  · have : r / W = 1 := by
      have e2 : r = (r - W) + W * 1 := by omega
      rw [e2, Int.add_mul_ediv_left _ _ (by omega), Int.ediv_eq_zero_of_lt (by omega) (by omega)]
      rfl
    rw [this, decide_eq_true (by omega)]
    show (1 + 2 * q) % 2 = 1
    omega
end Go.Proofs.Ytnjpoidpfcfbeaa
/- Routes: the program's tree in memory. -/
namespace Go.Proofs.Ytnjpoidpfcfbeaa
open Go.RowKit Sy
set_option linter.unusedVariables false
set_option linter.unusedSimpArgs false

def tyO : Option Int → TypeId
  | none => 163
  | some _ => 165
def exO : Option Int → List Value
  | none => []
  | some m => [.int .i64 m]
abbrev nilp : Value := .pointer none
abbrev ptv (g : Nat) : Value := .pointer (some ⟨g, 0, none⟩)
def ndC (p1 p2 : Value) (s : Bool) (v : Int) (o : Option Int) : List Value := [p1, p2, .bool s, .int .i64 v] ++ exO o
def ownR (s : Bool) (a : Int) (k : Nat) (v : Int) : Rws := if s then [mkR a k v] else []
/-- A tree: its root is this pointer, it lies in these blocks, these are its routes; a table's root bears how many there are. -/
inductive Sub (w : World) : Option Int → Nat → Int → Value → List Nat → Rws → Prop
  | nil (k : Nat) (a : Int) : Sub w none k a nilp [] []
  | node {o : Option Int} {k : Nat} {a : Int} {g : Nat} {p1 p2 : Value} {F1 F2 : List Nat} {c1 c2 : Rws} {s : Bool} {v : Int} (hk : k ≤ 32) (hB : Blk w g (tyO o) (ndC p1 p2 s v o)) (h1 : Sub w none (k + 1) a p1 F1 c1) (h2 : Sub w none (k + 1) (a + wid (k + 1)) p2 F2 c2) (hd : (g :: (F1 ++ F2)).Nodup) (v0 : -9223372036854775808 ≤ v) (v1 : v ≤ 9223372036854775807) : Sub w o k a (ptv g) (g :: (F1 ++ F2)) (ownR s a k v ++ (c1 ++ c2))
structure Nd (w : World) (o : Option Int) (k : Nat) (a : Int) (g : Nat) (F : List Nat) (c : Rws) (p1 p2 : Value) (F1 F2 : List Nat) (c1 c2 : Rws) (s : Bool) (v : Int) : Prop where
  hk : k ≤ 32
  blk : Blk w g (tyO o) (ndC p1 p2 s v o)
  k1 : Sub w none (k + 1) a p1 F1 c1
  k2 : Sub w none (k + 1) (a + wid (k + 1)) p2 F2 c2
  hd : (g :: (F1 ++ F2)).Nodup
  v0 : -9223372036854775808 ≤ v
  v1 : v ≤ 9223372036854775807
  hF : F = g :: (F1 ++ F2)
  hc : c = ownR s a k v ++ (c1 ++ c2)
theorem Sub.opn {w : World} {o : Option Int} {k : Nat} {a : Int} {p : Value} {g : Nat} {F : List Nat} {c : Rws} (h : Sub w o k a p F c) (hp : p = ptv g) : ∃ p1 p2 F1 F2 c1 c2 s v, Nd w o k a g F c p1 p2 F1 F2 c1 c2 s v := by
  cases h with
  | nil => cases hp
  | node hk hB h1 h2 hd v0 v1 =>
    injection hp with hp
    injection hp with hp
    injection hp with hp
    subst hp
    exact ⟨_, _, _, _, _, _, _, _, hk, hB, h1, h2, hd, v0, v1, rfl, rfl⟩
theorem Nd.sub {w : World} {o : Option Int} {k : Nat} {a : Int} {g : Nat} {F : List Nat} {c : Rws} {p1 p2 : Value} {F1 F2 : List Nat} {c1 c2 : Rws} {s : Bool} {v : Int} (h : Nd w o k a g F c p1 p2 F1 F2 c1 c2 s v) : Sub w o k a (ptv g) F c := by
  rw [h.hF, h.hc]
  exact .node h.hk h.blk h.k1 h.k2 h.hd h.v0 h.v1
section
variable {w w' : World} {o : Option Int} {k : Nat} {a : Int} {p : Value} {g : Nat} {F : List Nat} {c : Rws}
theorem Sub.shape (h : Sub w none k a p F c) : (p = nilp ∧ F = [] ∧ c = []) ∨ ∃ g, p = ptv g := by
  cases h with
  | nil => exact .inl ⟨rfl, rfl, rfl⟩
  | node => exact .inr ⟨_, rfl⟩
theorem Sub.keep (h : Sub w o k a p F c) (hk : ∀ i ∈ F, w'.heap[i]? = w.heap[i]?) : Sub w' o k a p F c := by
  induction h with
  | nil k a => exact .nil k a
  | node hk' hB h1 h2 hd v0 v1 i1 i2 =>
    exact .node hk' ((hk _ (List.mem_cons_self ..)).trans hB) (i1 fun i hi => hk i (List.mem_cons_of_mem _ (List.mem_append_left _ hi))) (i2 fun i hi => hk i (List.mem_cons_of_mem _ (List.mem_append_right _ hi))) hd v0 v1
theorem Sub.lt (h : Sub w o k a p F c) : ∀ i ∈ F, i < w.heap.size := by
  induction h with
  | nil k a => intro i hi; cases hi
  | node hk' hB h1 h2 hd v0 v1 i1 i2 =>
    intro i hi
    rcases List.mem_cons.1 hi with rfl | hi
    · exact hB.lt
    rcases List.mem_append.1 hi with hi | hi
    · exact i1 i hi
    · exact i2 i hi
theorem Sub.nodup (h : Sub w o k a p F c) : F.Nodup := by
  cases h with
  | nil => exact List.nodup_nil
  | node _ _ _ _ hd _ _ => exact hd
theorem Sub.deep (h : Sub w o k a p F c) (hk : 32 < k) : c = [] := by
  cases h with
  | nil => rfl
  | node hk' _ _ _ _ _ _ => omega
/-- A route below a place. -/
structure InP (a : Int) (k : Nat) (r : List Value) : Prop where
  ok : RRow r
  lo : a ≤ rAd r
  hi : rAd r + wid (rBi r).toNat ≤ a + wid k
  n : (k : Int) ≤ rBi r
theorem mod_dvd {x y : Int} (h : y ∣ x) : x % y = 0 := Int.emod_eq_zero_of_dvd h
theorem InP.own {v : Int} (hk : k ≤ 32) (a0 : 0 ≤ a) (al : wid k ∣ a) (a1 : a + wid k ≤ 4294967296) (v0 : -9223372036854775808 ≤ v) (v1 : v ≤ 9223372036854775807) : InP a k (mkR a k v) ∧ rAd (mkR a k v) = a ∧ rBi (mkR a k v) = k ∧ rVi (mkR a k v) = v := by
  have hp := wid_pos k
  have hc : chkN a k = 0 := by
    unfold chkN
    rw [if_neg (by omega), if_pos (by rw [Int.toNat_natCast]; exact mod_dvd al)]
  obtain ⟨e0, e1, e2⟩ := mkR_g (a := a) (n := k) (v := v) a0 (by omega) (by omega) (by omega) v0 v1
  refine ⟨⟨mkR_row a0 (by omega) hc v0 v1, ?_, ?_, ?_⟩, e0, e1, e2⟩
  · rw [e0]; exact Int.le_refl _
  · rw [e0, e1, Int.toNat_natCast]; exact Int.le_refl _
  · rw [e1]; exact Int.le_refl _
theorem al_kid {a : Int} {k : Nat} (hk : k < 32) (al : wid k ∣ a) : wid (k + 1) ∣ a ∧ wid (k + 1) ∣ a + wid (k + 1) := by
  have h1 : wid (k + 1) ∣ a := Int.dvd_trans (wid_dvd (Nat.le_succ k)) al
  exact ⟨h1, Int.dvd_add h1 (Int.dvd_refl _)⟩
theorem Sub.rows (h : Sub w o k a p F c) : 0 ≤ a → wid k ∣ a → a + wid k ≤ 4294967296 → ∀ r ∈ c, InP a k r := by
  induction h with
  | nil k a => intro _ _ _ r hr; cases hr
  | @node o k a g p1 p2 F1 F2 c1 c2 s v hk' hB h1 h2 hd v0 v1 i1 i2 =>
    intro a0 al a1 r hr
    have hw := wid_pos (k + 1)
    rcases List.mem_append.1 hr with hr | hr
    · unfold ownR at hr
      split at hr
      · rw [List.mem_singleton.1 hr]
        exact (InP.own hk' a0 al a1 v0 v1).1
      · cases hr
    · by_cases hk : k = 32
      · rw [h1.deep (by omega), h2.deep (by omega)] at hr
        cases hr
      · have hh := wid_half (k := k) (by omega)
        obtain ⟨l1, l2⟩ := al_kid (k := k) (by omega) al
        rcases List.mem_append.1 hr with hr | hr
        · have q := i1 a0 l1 (by omega) r hr
          exact ⟨q.ok, q.lo, by have := q.hi; omega, by have := q.n; omega⟩
        · have q := i2 (by omega) l2 (by omega) r hr
          exact ⟨q.ok, by have := q.lo; omega, by have := q.hi; omega, by have := q.n; omega⟩
theorem InP.key_lo {r : List Value} (h : InP a k r) : a * 64 + k ≤ key r := by
  have := h.lo
  have := h.n
  unfold key
  omega
theorem InP.key_hi {r : List Value} (h : InP a k r) : key r < (a + wid k) * 64 := by
  have := h.hi
  have := h.ok.n1
  have := wid_pos (rBi r).toNat
  unfold key
  omega
theorem Sub.srt (h : Sub w o k a p F c) : 0 ≤ a → wid k ∣ a → a + wid k ≤ 4294967296 → c.Pairwise fun x y => key x < key y := by
  induction h with
  | nil k a => intro _ _ _; exact .nil
  | @node o k a g p1 p2 F1 F2 c1 c2 s v hk' hB h1 h2 hd v0 v1 i1 i2 =>
    intro a0 al a1
    have hw := wid_pos (k + 1)
    by_cases hk : k = 32
    · rw [h1.deep (by omega), h2.deep (by omega)]
      unfold ownR
      split
      · exact List.pairwise_singleton ..
      · exact .nil
    · have hh := wid_half (k := k) (by omega)
      obtain ⟨l1, l2⟩ := al_kid (k := k) (by omega) al
      have r1 := h1.rows a0 l1 (by omega)
      have r2 := h2.rows (by omega) l2 (by omega)
      rw [List.pairwise_append, List.pairwise_append]
      refine ⟨?_, ⟨i1 a0 l1 (by omega), i2 (by omega) l2 (by omega), fun x hx y hy => ?_⟩, fun x hx y hy => ?_⟩
      · unfold ownR
        split
        · exact List.pairwise_singleton ..
        · exact .nil
      · have := (r1 x hx).key_hi
        have := (r2 y hy).key_lo
        omega
      · unfold ownR at hx
        split at hx
        · rw [List.mem_singleton.1 hx]
          obtain ⟨_, e0, e1, _⟩ := InP.own hk' a0 al a1 v0 v1
          have e : key (mkR a k v) = a * 64 + k := by unfold key; rw [e0, e1]
          rcases List.mem_append.1 hy with hy | hy
          · have := (r1 y hy).key_lo
            omega
          · have := (r2 y hy).key_lo
            omega
        · cases hx
end
/-- A place in a tree, and how the tree is put together again when what lies below is turned. -/
structure Place (w0 : World) (F0 : List Nat) (g : Nat) (m : Int) (pre post : Rws) (w : World) (o : Option Int) (k : Nat) (a : Int) (b : Nat) (F : List Nat) (c : Rws) : Prop where
  sub : Sub w o k a (ptv b) F c
  lo : ∀ r ∈ pre, key r < a * 64 + k
  hi : ∀ r ∈ post, (a + wid k) * 64 ≤ key r
  a0 : 0 ≤ a
  al : wid k ∣ a
  a1 : a + wid k ≤ 4294967296
  inF : ∀ i ∈ F, i ∈ F0 ∨ w0.heap.size ≤ i
  root : (o = some m ∧ b = g ∧ k = 0 ∧ a = 0 ∧ pre = [] ∧ post = []) ∨ (o = none ∧ g ∉ F)
  put : ∀ {w' : World} {F' : List Nat} {c' : Rws}, Only (fun i => i ∈ F) w w' → Sub w' o k a (ptv b) F' c' → (∀ i ∈ F', i ∈ F ∨ w.heap.size ≤ i) → ∃ F3, Sub w' (some m) 0 0 (ptv g) F3 (pre ++ (c' ++ post)) ∧ ∀ i ∈ F3, i ∈ F0 ∨ w0.heap.size ≤ i
theorem Place.start {w : World} {F : List Nat} {g : Nat} {m : Int} {c : Rws} (h : Sub w (some m) 0 0 (ptv g) F c) : Place w F g m [] [] w (some m) 0 0 g F c :=
  ⟨h, fun r hr => (by cases hr), fun r hr => (by cases hr), Int.le_refl _, ⟨0, by simp⟩, by rw [wid_0]; decide, fun i hi => .inl hi, .inl ⟨rfl, rfl, rfl, rfl, rfl, rfl⟩, fun {w' F' c'} ho hS hf => ⟨F', by rw [List.append_nil]; exact hS, hf⟩⟩
section
variable {w0 w w1 : World} {F0 : List Nat} {g : Nat} {m : Int} {pre post : Rws} {o : Option Int} {k : Nat} {a : Int} {b : Nat} {F : List Nat} {c : Rws} {p1 p2 : Value} {F1 F2 : List Nat} {c1 c2 : Rws} {s : Bool} {v : Int}
theorem Place.klt (h : Nd w o k a b F c p1 p2 F1 F2 c1 c2 s v) {b1 : Nat} {d : Bool} (hp : (bif d then p2 else p1) = ptv b1) : k < 32 := by
  cases d with
  | false => have := h.k1.opn hp; obtain ⟨_, _, _, _, _, _, _, _, n⟩ := this; have := n.hk; omega
  | true => have := h.k2.opn hp; obtain ⟨_, _, _, _, _, _, _, _, n⟩ := this; have := n.hk; omega
theorem own_key (h : Nd w o k a b F c p1 p2 F1 F2 c1 c2 s v) (a0 : 0 ≤ a) (al : wid k ∣ a) (a1 : a + wid k ≤ 4294967296) : ∀ r ∈ ownR s a k v, key r = a * 64 + k := by
  intro r hr
  unfold ownR at hr
  split at hr
  · rw [List.mem_singleton.1 hr]
    obtain ⟨_, e0, e1, _⟩ := InP.own h.hk a0 al a1 h.v0 h.v1
    unfold key
    rw [e0, e1]
  · cases hr
theorem Place.kid0 (P : Place w0 F0 g m pre post w o k a b F c) (h : Nd w o k a b F c p1 p2 F1 F2 c1 c2 s v) {b1 : Nat} (hp : p1 = ptv b1) : Place w0 F0 g m (pre ++ ownR s a k v) (c2 ++ post) w none (k + 1) a b1 F1 c1 := by
  have hk := Place.klt h (d := false) hp
  have hh := wid_half hk
  have hw := wid_pos (k + 1)
  obtain ⟨l1, l2⟩ := al_kid hk P.al
  have a1 := P.a1
  have a0 := P.a0
  have r2 := h.k2.rows (by omega) l2 (by omega)
  have hd := h.hd
  rw [List.nodup_cons, List.nodup_append] at hd
  obtain ⟨hd0, hd1, hd2, hd3⟩ := hd
  have hb : b ∉ F1 := fun q => hd0 (List.mem_append_left _ q)
  have hS1 : Sub w none (k + 1) a (ptv b1) F1 c1 := hp ▸ h.k1
  refine ⟨hS1, fun r hr => ?_, fun r hr => ?_, a0, l1, by omega, fun i hi => P.inF i (by rw [h.hF]; exact List.mem_cons_of_mem _ (List.mem_append_left _ hi)), .inr ⟨rfl, fun q => ?_⟩, fun {w' F' c'} ho hS hf => ?_⟩
  · rcases List.mem_append.1 hr with hr | hr
    · have := P.lo r hr; omega
    · have := own_key h a0 P.al a1 r hr; omega
  · rcases List.mem_append.1 hr with hr | hr
    · have := (r2 r hr).key_lo; omega
    · have := P.hi r hr; omega
  · rcases P.root with ⟨_, e, _⟩ | ⟨_, e⟩
    · exact hb (e ▸ q)
    · exact e (by rw [h.hF]; exact List.mem_cons_of_mem _ (List.mem_append_left _ q))
  · have hblt := h.blk.lt
    have hn : ∀ x, x ∉ F1 → x < w.heap.size → x ∉ F' := fun x hx hl q => (hf x q).elim hx fun q => by omega
    have hN : Sub w' o k a (ptv b) (b :: (F' ++ F2)) (ownR s a k v ++ (c' ++ c2)) := by
      refine .node (by omega) (h.blk.only ho hb) (hp ▸ hS) (h.k2.keep fun i hi => ho.block i (h.k2.lt i hi) fun q => hd3 i q i hi rfl) ?_ h.v0 h.v1
      rw [List.nodup_cons, List.nodup_append]
      refine ⟨fun q => ?_, hS.nodup, hd2, fun x hx y hy e => ?_⟩
      · rcases List.mem_append.1 q with q | q
        · exact hn b hb hblt q
        · exact hd0 (List.mem_append_right _ q)
      · subst e
        exact hn x (fun q => hd3 x q x hy rfl) (h.k2.lt x hy) hx
    obtain ⟨F3, q1, q2⟩ := P.put (ho.mono fun i _ hi => by rw [h.hF]; exact List.mem_cons_of_mem _ (List.mem_append_left _ hi)) hN (fun i hi => by
      rw [h.hF]
      rcases List.mem_cons.1 hi with rfl | hi
      · exact .inl (List.mem_cons_self ..)
      rcases List.mem_append.1 hi with hi | hi
      · exact (hf i hi).imp (fun q => List.mem_cons_of_mem _ (List.mem_append_left _ q)) fun q => q
      · exact .inl (List.mem_cons_of_mem _ (List.mem_append_right _ hi)))
    refine ⟨F3, ?_, q2⟩
    have e : pre ++ ownR s a k v ++ (c' ++ (c2 ++ post)) = pre ++ (ownR s a k v ++ (c' ++ c2) ++ post) := by simp only [List.append_assoc]
    rw [e]
    exact q1
theorem Place.kid1 (P : Place w0 F0 g m pre post w o k a b F c) (h : Nd w o k a b F c p1 p2 F1 F2 c1 c2 s v) {b1 : Nat} (hp : p2 = ptv b1) : Place w0 F0 g m (pre ++ (ownR s a k v ++ c1)) post w none (k + 1) (a + wid (k + 1)) b1 F2 c2 := by
  have hk := Place.klt h (d := true) hp
  have hh := wid_half hk
  have hw := wid_pos (k + 1)
  obtain ⟨l1, l2⟩ := al_kid hk P.al
  have a1 := P.a1
  have a0 := P.a0
  have r1 := h.k1.rows a0 l1 (by omega)
  have hd := h.hd
  rw [List.nodup_cons, List.nodup_append] at hd
  obtain ⟨hd0, hd1, hd2, hd3⟩ := hd
  have hb : b ∉ F2 := fun q => hd0 (List.mem_append_right _ q)
  have hS1 : Sub w none (k + 1) (a + wid (k + 1)) (ptv b1) F2 c2 := hp ▸ h.k2
  refine ⟨hS1, fun r hr => ?_, fun r hr => ?_, by omega, l2, by omega, fun i hi => P.inF i (by rw [h.hF]; exact List.mem_cons_of_mem _ (List.mem_append_right _ hi)), .inr ⟨rfl, fun q => ?_⟩, fun {w' F' c'} ho hS hf => ?_⟩
  · rcases List.mem_append.1 hr with hr | hr
    · have := P.lo r hr; omega
    rcases List.mem_append.1 hr with hr | hr
    · have := own_key h a0 P.al a1 r hr; omega
    · have := (r1 r hr).key_hi; omega
  · have := P.hi r hr; omega
  · rcases P.root with ⟨_, e, _⟩ | ⟨_, e⟩
    · exact hb (e ▸ q)
    · exact e (by rw [h.hF]; exact List.mem_cons_of_mem _ (List.mem_append_right _ q))
  · have hblt := h.blk.lt
    have hn : ∀ x, x ∉ F2 → x < w.heap.size → x ∉ F' := fun x hx hl q => (hf x q).elim hx fun q => by omega
    have hN : Sub w' o k a (ptv b) (b :: (F1 ++ F')) (ownR s a k v ++ (c1 ++ c')) := by
      refine .node (by omega) (h.blk.only ho hb) (h.k1.keep fun i hi => ho.block i (h.k1.lt i hi) fun q => hd3 i hi i q rfl) (hp ▸ hS) ?_ h.v0 h.v1
      rw [List.nodup_cons, List.nodup_append]
      refine ⟨fun q => ?_, hd1, hS.nodup, fun x hx y hy e => ?_⟩
      · rcases List.mem_append.1 q with q | q
        · exact hd0 (List.mem_append_left _ q)
        · exact hn b hb hblt q
      · subst e
        exact hn x (fun q => hd3 x hx x q rfl) (h.k1.lt x hx) hy
    obtain ⟨F3, q1, q2⟩ := P.put (ho.mono fun i _ hi => by rw [h.hF]; exact List.mem_cons_of_mem _ (List.mem_append_right _ hi)) hN (fun i hi => by
      rw [h.hF]
      rcases List.mem_cons.1 hi with rfl | hi
      · exact .inl (List.mem_cons_self ..)
      rcases List.mem_append.1 hi with hi | hi
      · exact .inl (List.mem_cons_of_mem _ (List.mem_append_left _ hi))
      · exact (hf i hi).imp (fun q => List.mem_cons_of_mem _ (List.mem_append_right _ q)) fun q => q)
    refine ⟨F3, ?_, q2⟩
    have e : pre ++ (ownR s a k v ++ c1) ++ (c' ++ post) = pre ++ (ownR s a k v ++ (c1 ++ c') ++ post) := by simp only [List.append_assoc]
    rw [e]
    exact q1
/-- What lies below is turned; the place is the same. -/
theorem Place.moved (P : Place w0 F0 g m pre post w o k a b F c) (hw : w0.heap.size ≤ w.heap.size) {F' : List Nat} {c' : Rws} (ho : Only (fun i => i ∈ F) w w1) (hS : Sub w1 o k a (ptv b) F' c') (hf : ∀ i ∈ F', i ∈ F ∨ w.heap.size ≤ i) (hg : o = none → g < w.heap.size) : Place w0 F0 g m pre post w1 o k a b F' c' := by
  refine ⟨hS, P.lo, P.hi, P.a0, P.al, P.a1, fun i hi => ?_, ?_, fun {w' F2 c2} ho2 hS2 hf2 => ?_⟩
  · rcases hf i hi with q | q
    · exact P.inF i q
    · exact .inr (Nat.le_trans hw q)
  · rcases P.root with e | ⟨e, q⟩
    · exact .inl e
    · refine .inr ⟨e, fun q2 => (hf g q2).elim q fun q3 => ?_⟩
      have := hg e
      omega
  · have hs := ho.size
    refine P.put ⟨ho2.os.trans ho.os, ho2.tape.trans ho.tape, ho2.output.trans ho.output, Nat.le_trans ho.size ho2.size, fun i hi hn => ?_⟩ hS2 fun i hi => ?_
    · exact (ho2.block i (by omega) (fun q => (hf i q).elim hn fun q => by omega)).trans (ho.block i hi hn)
    · rcases hf2 i hi with q | q
      · exact hf i q
      · exact .inr (by omega)
end
/-- How many there are is told anew. -/
theorem Sub.many {w w' : World} {m m' : Int} {g : Nat} {F : List Nat} {C : Rws} (h : Sub w (some m) 0 0 (ptv g) F C) (ho : Only (fun i => i = g) w w') {q1 q2 : Value} {s : Bool} {v : Int} (hg : Blk w g 165 (ndC q1 q2 s v (some m))) (hg' : Blk w' g 165 (ndC q1 q2 s v (some m'))) : Sub w' (some m') 0 0 (ptv g) F C := by
  obtain ⟨p1, p2, F1, F2, c1, c2, s1, v1, N⟩ := h.opn rfl
  have e : (ndC p1 p2 s1 v1 (some m)) = ndC q1 q2 s v (some m) := by
    have := N.blk.symm.trans hg
    injection this with this
    injection this with this
    exact Array.toList_inj.2 this |> (by simpa using ·)
  injection e with e1 e
  injection e with e2 e
  injection e with e3 e
  injection e with e4 e
  injection e3 with e3
  injection e4 with _ e4
  subst e1 e2 e3 e4
  have hd := N.hd
  rw [List.nodup_cons] at hd
  rw [N.hF, N.hc]
  exact .node N.hk hg' (N.k1.keep fun i hi => ho.block i (N.k1.lt i hi) fun q => hd.1 (q ▸ List.mem_append_left _ hi)) (N.k2.keep fun i hi => ho.block i (N.k2.lt i hi) fun q => hd.1 (q ▸ List.mem_append_right _ hi)) N.hd N.v0 N.v1
section
variable {w0 w w1 : World} {F0 : List Nat} {g : Nat} {m : Int} {pre post : Rws} {o : Option Int} {k : Nat} {a : Int} {b : Nat} {F : List Nat} {c : Rws}
/-- What lies below is turned, and how many there are. -/
theorem Place.put2 (P : Place w0 F0 g m pre post w none k a b F c) {w' : World} {F' : List Nat} {c' : Rws} {m' : Int} {q1 q2 : Value} {s : Bool} {v : Int} (ho : Only (fun i => i ∈ F ∨ i = g) w w') (hS : Sub w' none k a (ptv b) F' c') (hf : ∀ i ∈ F', i ∈ F ∨ w.heap.size ≤ i) (hg : Blk w g 165 (ndC q1 q2 s v (some m))) (hg' : Blk w' g 165 (ndC q1 q2 s v (some m'))) :
    ∃ F3, Sub w' (some m') 0 0 (ptv g) F3 (pre ++ (c' ++ post)) ∧ ∀ i ∈ F3, i ∈ F0 ∨ w0.heap.size ≤ i := by
  have hgF : g ∉ F := by
    rcases P.root with ⟨e, _⟩ | ⟨_, e⟩
    · cases e
    · exact e
  have hgF' : g ∉ F' := fun q => (hf g q).elim hgF fun q => by have := hg.lt; omega
  have hlt' := hg'.lt
  obtain ⟨w3, hw3⟩ : ∃ w3 : World, w3 = { w' with heap := w'.heap.set g (.cells (ndC q1 q2 s v (some m)).toArray 165 (0, 0)) hlt' } := ⟨_, rfl⟩
  have hb : ∀ i, i ≠ g → w3.heap[i]? = w'.heap[i]? := fun i hi => by
    rw [hw3]
    exact Array.getElem?_set_ne hlt' (Ne.symm hi)
  have hg3 : Blk w3 g 165 (ndC q1 q2 s v (some m)) := by
    unfold Blk
    rw [hw3]
    exact Array.getElem?_set_self hlt'
  have hsz : w3.heap.size = w'.heap.size := by rw [hw3]; exact Array.size_set hlt'
  have ho3 : Only (fun i => i ∈ F) w w3 := by
    refine ⟨by rw [hw3]; exact ho.os, by rw [hw3]; exact ho.tape, by rw [hw3]; exact ho.output, by rw [hsz]; exact ho.size, fun i hi hn => ?_⟩
    by_cases e : i = g
    · subst e; exact Eq.trans hg3 hg.symm
    · exact (hb i e).trans (ho.block i hi fun q => q.elim hn e)
  obtain ⟨F3, q1', q2'⟩ := P.put ho3 (hS.keep fun i hi => hb i fun q => hgF' (q ▸ hi)) hf
  refine ⟨F3, q1'.many ⟨by rw [hw3], by rw [hw3], by rw [hw3], by rw [hsz]; exact Nat.le_refl _, fun i _ hn => (hb i hn).symm⟩ hg3 hg', q2'⟩
end
end Go.Proofs.Ytnjpoidpfcfbeaa
