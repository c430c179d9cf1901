/- Prefixes: the checks and Has, both sides. -/
import Derived.Test.YtdkgekmjkindmaaDoorAd9
namespace Go.Proofs.YtdkgekmjkindmaaDoor
open Go.RowKit Sy
set_option linter.unusedVariables false
set_option linter.unusedSimpArgs false
def i64B (n : Nat) : Bd := ⟨.iv n, -9223372036854775808, 9223372036854775807⟩
def u32B (n : Nat) : Bd := ⟨.iv n, 0, 4294967295⟩
def wid (k : Nat) : Int := 2 ^ (32 - k)
theorem wid_pos (k : Nat) : 1 ≤ wid k := by
  unfold wid
  have := Nat.one_le_two_pow (n := 32 - k)
  exact_mod_cast this
theorem wid_half {k : Nat} (h : k < 32) : wid k = 2 * wid (k + 1) := by
  unfold wid
  rw [show 32 - k = (32 - (k + 1)) + 1 by omega, Int.pow_succ]
  omega
theorem wid_0 : wid 0 = 4294967296 := by decide
theorem wid_32 : wid 32 = 1 := by decide
theorem wid_dvd {j k : Nat} (h : k ≤ j) : wid j ∣ wid k := by
  unfold wid
  have := Nat.pow_dvd_pow 2 (show 32 - j ≤ 32 - k by omega)
  exact_mod_cast this
theorem wid_le (k : Nat) : wid k ≤ 4294967296 := by
  have := Int.le_of_dvd (by decide) (wid_dvd (Nat.zero_le k) : wid k ∣ wid 0)
  rwa [wid_0] at this
/-- What the document's check of a prefix answers. -/
def chkN (a n : Int) : Int := if n < 0 ∨ 32 < n then 1 else if a % wid n.toNat = 0 then 0 else 4
theorem chk_0 {a n : Int} (h : chkN a n = 0) : 0 ≤ n ∧ n ≤ 32 ∧ a % wid n.toNat = 0 := by
  unfold chkN at h
  split at h
  · omega
  · split at h
    · exact ⟨by omega, by omega, ‹_›⟩
    · omega
theorem msk : ∀ m : Fin 33, (~~~ (BitVec.ofInt 32 (4294967295 * 2 ^ (m : Nat) % 4294967296))).toNat = 2 ^ (m : Nat) - 1 := by decide
theorem bmask {a : Int} {m : Nat} (hm : m ≤ 32) (h0 : 0 ≤ a) (h1 : a ≤ 4294967295) : bits .andNot .u32 a (4294967295 * 2 ^ m % 4294967296) = a % 2 ^ m := by
  have e1 : (BitVec.ofInt 32 a &&& ~~~ (BitVec.ofInt 32 (4294967295 * 2 ^ m % 4294967296))).toNat = (a % 4294967296).toNat % 2 ^ m := by
    rw [BitVec.toNat_and]
    have := msk ⟨m, by omega⟩
    simp only [] at this
    rw [this]
    show (a % 4294967296).toNat &&& _ = _
    exact Nat.and_two_pow_sub_one_eq_mod _ m
  show IntKind.u32.wrap ((BitVec.ofInt 32 a &&& ~~~ (BitVec.ofInt 32 (4294967295 * 2 ^ m % 4294967296))).toNat : Int) = _
  rw [e1]
  have h2 : (((a % 4294967296).toNat % 2 ^ m : Nat) : Int) = a % 2 ^ m := by
    rw [Int.natCast_emod]
    have : (((a % 4294967296).toNat : Nat) : Int) = a := by omega
    rw [this]
    congr 1
  rw [h2]
  have p : (0 : Int) < 2 ^ m := by have := Nat.two_pow_pos m; exact_mod_cast this
  have q1 := Int.emod_nonneg a (Int.ne_of_gt p)
  have q2 : a % 2 ^ m ≤ a := by
    have := Int.mul_ediv_add_emod a (2 ^ m)
    have q : 0 ≤ 2 ^ m * (a / 2 ^ m) := Int.mul_nonneg (Int.le_of_lt p) (Int.ediv_nonneg h0 (Int.le_of_lt p))
    omega
  exact wrap_in (show (0 : Int) ≤ _ by omega) (show _ ≤ (4294967295 : Int) by omega)
def hsN (a n x : Int) : Bool := decide (chkN a n = 0 ∧ a ≤ x ∧ x ≤ a + wid n.toNat - 1)
def rtF : Nat → Dn → Dn → Dn → Dn := fun n x y z => x
def pfA : List SV := [.one (.agg [.int .u32 (.iv 20), .int .i64 (.iv 21)])]
def pfBs : List Bd := [u32B 20, i64B 21]
def pfSt : Sy.St := ⟨[], [], ⟨pfBs, []⟩, 30⟩
def pfE (a n x : Int) : Env := { mkEnv0 [] [] [] [] with i := fun j => if j = 20 then a else if j = 21 then n else if j = 22 then x else 0, f := rtF }
set_option maxRecDepth 100000 in
theorem ck_run : smR Tryd.prog Tryd.f13 4 (run Tryd.prog [] 10 400 4 (.code (bodyOf Tryd.f13)) (enterS Tryd.f13 pfA pfSt)) = some [.ret (.one (.c (.int .i64 (.il 1)))) [] [.lt (.il 32) (.iv 21), (.not (.lt (.iv 21) (.il 0)))], .ret (.one (.c (.int .i64 (.il 4)))) [] [.not (.eq (.bop .andNot .u32 (.iv 20) (.md (.mul (.il 4294967295) (.pw (.sub (.il 32) (.iv 21)))) (.il 4294967296))) (.il 0)), (.not (.lt (.il 32) (.iv 21))), (.not (.lt (.iv 21) (.il 0)))], .ret (.one (.c (.int .i64 (.il 0)))) [] [(.eq (.bop .andNot .u32 (.iv 20) (.md (.mul (.il 4294967295) (.pw (.sub (.il 32) (.iv 21)))) (.il 4294967296))) (.il 0)), (.not (.lt (.il 32) (.iv 21))), (.not (.lt (.iv 21) (.il 0)))], .ret (.one (.c (.int .i64 (.il 1)))) [] [.lt (.iv 21) (.il 0)]] := by kernel_rfl
set_option maxRecDepth 100000 in
theorem rc_run : smR Tryd.prog Tryd.f14 4 (run Tryd.prog [] 10 400 4 (.code (bodyOf Tryd.f14)) (enterS Tryd.f14 pfA pfSt)) = some [.ret (.one (.c (.int .i64 (.il 1)))) [] [.lt (.il 32) (.iv 21), (.not (.lt (.iv 21) (.il 0)))], .ret (.one (.c (.int .i64 (.il 4)))) [] [.not (.eq (.md (.iv 20) (.pw (.sub (.il 32) (.iv 21)))) (.il 0)), (.not (.lt (.il 32) (.iv 21))), (.not (.lt (.iv 21) (.il 0)))], .ret (.one (.c (.int .i64 (.il 0)))) [] [(.eq (.md (.iv 20) (.pw (.sub (.il 32) (.iv 21)))) (.il 0)), (.not (.lt (.il 32) (.iv 21))), (.not (.lt (.iv 21) (.il 0)))], .ret (.one (.c (.int .i64 (.il 1)))) [] [.lt (.iv 21) (.il 0)]] := by kernel_rfl
def hsA : List SV := pfA ++ [.one (.c (.int .u32 (.iv 22)))]
def hsSt : Sy.St := ⟨[], [], ⟨u32B 22 :: pfBs, []⟩, 30⟩
set_option maxRecDepth 100000 in
theorem hs_run : smR Tryd.prog Tryd.f16 4 (run Tryd.prog [] 10 400 4 (.code (bodyOf Tryd.f16)) (enterS Tryd.f16 hsA hsSt)) = some [.ret (.one (.c (.bool (.bl false)))) [] [.lt (.il 32) (.iv 21), (.not (.lt (.iv 21) (.il 0)))], .ret (.one (.c (.bool (.bl false)))) [] [.not (.eq (.md (.iv 20) (.pw (.sub (.il 32) (.iv 21)))) (.il 0)), (.not (.lt (.il 32) (.iv 21))), (.not (.lt (.iv 21) (.il 0)))], .ret (.one (.c (.bool (.le (.iv 22) (.add (.add (.iv 20) (.pw (.sub (.il 32) (.iv 21)))) (.il (-1))))))) [] [.le (.iv 20) (.iv 22), (.eq (.md (.iv 20) (.pw (.sub (.il 32) (.iv 21)))) (.il 0)), (.not (.lt (.il 32) (.iv 21))), (.not (.lt (.iv 21) (.il 0)))], .ret (.one (.c (.bool (.bl false)))) [] [.not (.le (.iv 20) (.iv 22)), (.eq (.md (.iv 20) (.pw (.sub (.il 32) (.iv 21)))) (.il 0)), (.not (.lt (.il 32) (.iv 21))), (.not (.lt (.iv 21) (.il 0)))], .ret (.one (.c (.bool (.bl false)))) [] [.lt (.iv 21) (.il 0)]] := by kernel_rfl
theorem pf_bds {a n x : Int} (a0 : 0 ≤ a) (a1 : a ≤ 4294967295) (n0 : -9223372036854775808 ≤ n) (n1 : n ≤ 9223372036854775807) : bdsP (pfE a n x) pfBs := ⟨⟨a0, a1⟩, ⟨n0, n1⟩, trivial⟩
theorem wid_of {n : Int} (h0 : 0 ≤ n) (h1 : n ≤ 32) : (2 : Int) ^ (32 - n).toNat = wid n.toNat := by
  unfold wid
  congr 1
  omega
def pfV (a n : Int) : Value := .agg #[.int .u32 a, .int .i64 n]
theorem ck_calls {a n : Int} (a0 : 0 ≤ a) (a1 : a ≤ 4294967295) (n0 : -9223372036854775808 ≤ n) (n1 : n ≤ 9223372036854775807) (w : World) : Calls Tryd.prog 13 #[pfV a n] w (RetP fun v w' => v = .int .i64 (chkN a n) ∧ Below w.heap.size w w') := by
  have hM : Md (pfE a n 0) (fun _ => False) w (fun _ => 0) 4 pfSt (fun _ => 0) ⟨#[], []⟩ w := Sy.Md.start (cxP (pf_bds a0 a1 n0 n1) trivial)
  refine calls_sm (B := ⟨pfE a n 0, fun _ => False, w, fun _ => 0, 4⟩) (sp := []) (fun i => rfl) (fun q hq => by cases hq) 10 400 Tryd.func13 rfl pfA pfSt _ 4 rfl ck_run hM (R := fun v w' => v = .int .i64 (chkN a n) ∧ Below w.heap.size w w') ⟨?_, ?_, ?_, ?_, trivial⟩ rfl
  all_goals
    intro hpc β w2 hH
    refine ⟨?_, Sy.Only.below_all hH.only⟩
    replace hpc : pcs (pfE a n 0) _ := hpc
    simp only [pcs, t_lt, t_le, t_eq, t_not, i_iv, i_il, and_true] at hpc
    change _ = Value.int .i64 (chkN a n)
    show Value.int .i64 _ = _
    unfold chkN
  · change 32 < n ∧ ¬ n < 0 at hpc
    rw [if_pos (by omega)]; rfl
  · obtain ⟨q0, q1, q2⟩ := hpc
    change ¬ 32 < n at q1
    change ¬ n < 0 at q2
    change ¬ bits .andNot .u32 a (4294967295 * 2 ^ (32 - n).toNat % 4294967296) = 0 at q0
    rw [bmask (by omega) a0 a1, wid_of (by omega) (by omega)] at q0
    rw [if_neg (by omega), if_neg q0]; rfl
  · obtain ⟨q0, q1, q2⟩ := hpc
    change ¬ 32 < n at q1
    change ¬ n < 0 at q2
    change bits .andNot .u32 a (4294967295 * 2 ^ (32 - n).toNat % 4294967296) = 0 at q0
    rw [bmask (by omega) a0 a1, wid_of (by omega) (by omega)] at q0
    rw [if_neg (by omega), if_pos q0]; rfl
  · change n < 0 at hpc
    rw [if_pos (by omega)]; rfl
theorem rc_calls {a n : Int} (a0 : 0 ≤ a) (a1 : a ≤ 4294967295) (n0 : -9223372036854775808 ≤ n) (n1 : n ≤ 9223372036854775807) (w : World) : Calls Tryd.prog 14 #[pfV a n] w (RetP fun v w' => v = .int .i64 (chkN a n) ∧ Below w.heap.size w w') := by
  have hM : Md (pfE a n 0) (fun _ => False) w (fun _ => 0) 4 pfSt (fun _ => 0) ⟨#[], []⟩ w := Sy.Md.start (cxP (pf_bds a0 a1 n0 n1) trivial)
  refine calls_sm (B := ⟨pfE a n 0, fun _ => False, w, fun _ => 0, 4⟩) (sp := []) (fun i => rfl) (fun q hq => by cases hq) 10 400 Tryd.func14 rfl pfA pfSt _ 4 rfl rc_run hM (R := fun v w' => v = .int .i64 (chkN a n) ∧ Below w.heap.size w w') ⟨?_, ?_, ?_, ?_, trivial⟩ rfl
  all_goals
    intro hpc β w2 hH
    refine ⟨?_, Sy.Only.below_all hH.only⟩
    replace hpc : pcs (pfE a n 0) _ := hpc
    simp only [pcs, t_lt, t_le, t_eq, t_not, i_iv, i_il, and_true] at hpc
    show Value.int .i64 _ = _
    unfold chkN
  · change 32 < n ∧ ¬ n < 0 at hpc
    rw [if_pos (by omega)]; rfl
  · obtain ⟨q0, q1, q2⟩ := hpc
    change ¬ 32 < n at q1
    change ¬ n < 0 at q2
    change ¬ a % 2 ^ (32 - n).toNat = 0 at q0
    rw [wid_of (by omega) (by omega)] at q0
    rw [if_neg (by omega), if_neg q0]; rfl
  · obtain ⟨q0, q1, q2⟩ := hpc
    change ¬ 32 < n at q1
    change ¬ n < 0 at q2
    change a % 2 ^ (32 - n).toNat = 0 at q0
    rw [wid_of (by omega) (by omega)] at q0
    rw [if_neg (by omega), if_pos q0]; rfl
  · change n < 0 at hpc
    rw [if_pos (by omega)]; rfl
set_option maxRecDepth 100000 in
theorem hs_calls {a n x : Int} (a0 : 0 ≤ a) (a1 : a ≤ 4294967295) (n0 : -9223372036854775808 ≤ n) (n1 : n ≤ 9223372036854775807) (x0 : 0 ≤ x) (x1 : x ≤ 4294967295) (w : World) : Calls Tryd.prog 16 #[pfV a n, .int .u32 x] w (RetP fun v w' => v = .bool (hsN a n x) ∧ Below w.heap.size w w') := by
  have hM : Md (pfE a n x) (fun _ => False) w (fun _ => 0) 4 hsSt (fun _ => 0) ⟨#[], []⟩ w := Sy.Md.start (cxP ⟨⟨x0, x1⟩, pf_bds a0 a1 n0 n1⟩ trivial)
  refine calls_sm (B := ⟨pfE a n x, fun _ => False, w, fun _ => 0, 4⟩) (sp := []) (fun i => rfl) (fun q hq => by cases hq) 10 400 Tryd.func16 rfl hsA hsSt _ 4 rfl hs_run hM (R := fun v w' => v = .bool (hsN a n x) ∧ Below w.heap.size w w') ⟨?_, ?_, ?_, ?_, ?_, trivial⟩ rfl
  all_goals
    intro hpc β w2 hH
    refine ⟨?_, Sy.Only.below_all hH.only⟩
    replace hpc : pcs (pfE a n x) _ := hpc
    simp only [pcs, t_lt, t_le, t_eq, t_not, i_iv, i_il, and_true] at hpc
    show Value.bool _ = _
    unfold hsN chkN
  · change 32 < n ∧ ¬ n < 0 at hpc
    rw [if_pos (by omega), decide_eq_false (by omega)]; rfl
  · obtain ⟨q0, q1, q2⟩ := hpc
    change ¬ 32 < n at q1
    change ¬ n < 0 at q2
    change ¬ a % 2 ^ (32 - n).toNat = 0 at q0
    rw [wid_of (by omega) (by omega)] at q0
    rw [if_neg (by omega), if_neg q0, decide_eq_false (by omega)]; rfl
  · obtain ⟨q3, q0, q1, q2⟩ := hpc
    change a ≤ x at q3
    change ¬ 32 < n at q1
    change ¬ n < 0 at q2
    change a % 2 ^ (32 - n).toNat = 0 at q0
    rw [wid_of (by omega) (by omega)] at q0
    rw [if_neg (by omega), if_pos q0]
    show Value.bool (decide (x ≤ a + 2 ^ (32 - n).toNat + (-1))) = _
    rw [wid_of (by omega) (by omega)]
    congr 1
    exact decide_eq_decide.2 ⟨fun h => ⟨rfl, q3, by omega⟩, fun h => by omega⟩
  · obtain ⟨q3, q0, q1, q2⟩ := hpc
    change ¬ a ≤ x at q3
    rw [decide_eq_false (by omega)]; rfl
  · change n < 0 at hpc
    rw [if_pos (by omega), decide_eq_false (by omega)]; rfl
theorem bv_split (x M : BitVec 32) : (x &&& M) + (x &&& ~~~M) = x := by
  rw [BitVec.add_eq_or_of_and_eq_zero]
  · ext i hi
    simp only [BitVec.getElem_or, BitVec.getElem_and, BitVec.getElem_not]
    cases x[i] <;> cases M[i] <;> rfl
  · ext i hi
    simp only [BitVec.getElem_and, BitVec.getElem_not, BitVec.getElem_zero]
    cases x[i] <;> cases M[i] <;> rfl
theorem bkeep {a : Int} {m : Nat} (hm : m ≤ 32) (h0 : 0 ≤ a) (h1 : a ≤ 4294967295) : bits .and .u32 a (4294967295 * 2 ^ m % 4294967296) = a - a % 2 ^ m := by
  have e1 : (BitVec.ofInt 32 a &&& ~~~ (BitVec.ofInt 32 (4294967295 * 2 ^ m % 4294967296))).toNat = (a % 4294967296).toNat % 2 ^ m := by
    rw [BitVec.toNat_and]
    have := msk ⟨m, by omega⟩
    simp only [] at this
    rw [this]
    show (a % 4294967296).toNat &&& _ = _
    exact Nat.and_two_pow_sub_one_eq_mod _ m
  have hs := congrArg BitVec.toNat (bv_split (BitVec.ofInt 32 a) (BitVec.ofInt 32 (4294967295 * 2 ^ m % 4294967296)))
  rw [BitVec.toNat_add, e1, show (BitVec.ofInt 32 a).toNat = a.toNat from by show (a % 4294967296).toNat = a.toNat; omega] at hs
  have hle : (BitVec.ofInt 32 a &&& BitVec.ofInt 32 (4294967295 * 2 ^ m % 4294967296)).toNat ≤ a.toNat := by
    rw [BitVec.toNat_and, show (BitVec.ofInt 32 a).toNat = a.toNat from by show (a % 4294967296).toNat = a.toNat; omega]
    exact Nat.and_le_left
  show IntKind.u32.wrap ((BitVec.ofInt 32 a &&& BitVec.ofInt 32 (4294967295 * 2 ^ m % 4294967296)).toNat : Int) = _
  generalize (BitVec.ofInt 32 a &&& BitVec.ofInt 32 (4294967295 * 2 ^ m % 4294967296)).toNat = p at hs hle
  have hq : (((a % 4294967296).toNat % 2 ^ m : Nat) : Int) = a % 2 ^ m := by
    rw [Int.natCast_emod]
    have : (((a % 4294967296).toNat : Nat) : Int) = a := by omega
    rw [this]
    congr 1
  have hq1 : (a % 4294967296).toNat % 2 ^ m ≤ (a % 4294967296).toNat := Nat.mod_le _ _
  generalize (a % 4294967296).toNat % 2 ^ m = q at hs hq hq1
  have e2 : (p : Int) = a - a % 2 ^ m := by rw [← hq]; omega
  rw [← e2]
  exact wrap_in (show (0 : Int) ≤ _ by omega) (show _ ≤ (4294967295 : Int) by omega)
set_option maxRecDepth 100000 in
theorem ph_run : smR Tryd.prog Tryd.f15 4 (run Tryd.prog [] 10 400 4 (.code (bodyOf Tryd.f15)) (enterS Tryd.f15 hsA hsSt)) = some [.ret (.one (.c (.bool (.bl false)))) [] [.lt (.il 32) (.iv 21), (.not (.lt (.iv 21) (.il 0)))], .ret (.one (.c (.bool (.bl false)))) [] [.not (.eq (.bop .andNot .u32 (.iv 20) (.md (.mul (.il 4294967295) (.pw (.sub (.il 32) (.iv 21)))) (.il 4294967296))) (.il 0)), (.not (.lt (.il 32) (.iv 21))), (.not (.lt (.iv 21) (.il 0)))], .ret (.one (.c (.bool (.eq (.bop .and .u32 (.iv 22) (.md (.mul (.il 4294967295) (.pw (.sub (.il 32) (.iv 21)))) (.il 4294967296))) (.iv 20))))) [] [(.eq (.bop .andNot .u32 (.iv 20) (.md (.mul (.il 4294967295) (.pw (.sub (.il 32) (.iv 21)))) (.il 4294967296))) (.il 0)), (.not (.lt (.il 32) (.iv 21))), (.not (.lt (.iv 21) (.il 0)))], .ret (.one (.c (.bool (.bl false)))) [] [.lt (.iv 21) (.il 0)]] := by kernel_rfl
set_option maxRecDepth 100000 in
theorem ph_calls {a n x : Int} (a0 : 0 ≤ a) (a1 : a ≤ 4294967295) (n0 : -9223372036854775808 ≤ n) (n1 : n ≤ 9223372036854775807) (x0 : 0 ≤ x) (x1 : x ≤ 4294967295) (w : World) : Calls Tryd.prog 15 #[pfV a n, .int .u32 x] w (RetP fun v w' => v = .bool (hsN a n x) ∧ Below w.heap.size w w') := by
  have hM : Md (pfE a n x) (fun _ => False) w (fun _ => 0) 4 hsSt (fun _ => 0) ⟨#[], []⟩ w := Sy.Md.start (cxP ⟨⟨x0, x1⟩, pf_bds a0 a1 n0 n1⟩ trivial)
  refine calls_sm (B := ⟨pfE a n x, fun _ => False, w, fun _ => 0, 4⟩) (sp := []) (fun i => rfl) (fun q hq => by cases hq) 10 400 Tryd.func15 rfl hsA hsSt _ 4 rfl ph_run hM (R := fun v w' => v = .bool (hsN a n x) ∧ Below w.heap.size w w') ⟨?_, ?_, ?_, ?_, trivial⟩ rfl
  all_goals
    intro hpc β w2 hH
    refine ⟨?_, Sy.Only.below_all hH.only⟩
    replace hpc : pcs (pfE a n x) _ := hpc
    simp only [pcs, t_lt, t_le, t_eq, t_not, i_iv, i_il, and_true] at hpc
    show Value.bool _ = _
    unfold hsN chkN
  · change 32 < n ∧ ¬ n < 0 at hpc
    rw [if_pos (by omega), decide_eq_false (by omega)]; rfl
  · obtain ⟨q0, q1, q2⟩ := hpc
    change ¬ 32 < n at q1
    change ¬ n < 0 at q2
    change ¬ bits .andNot .u32 a (4294967295 * 2 ^ (32 - n).toNat % 4294967296) = 0 at q0
    rw [bmask (by omega) a0 a1, wid_of (by omega) (by omega)] at q0
    rw [if_neg (by omega), if_neg q0, decide_eq_false (by omega)]; rfl
  · obtain ⟨q0, q1, q2⟩ := hpc
    change ¬ 32 < n at q1
    change ¬ n < 0 at q2
    change bits .andNot .u32 a (4294967295 * 2 ^ (32 - n).toNat % 4294967296) = 0 at q0
    rw [bmask (by omega) a0 a1, wid_of (by omega) (by omega)] at q0
    rw [if_neg (by omega), if_pos q0]
    show Value.bool (decide (bits .and .u32 x (4294967295 * 2 ^ (32 - n).toNat % 4294967296) = a)) = _
    rw [bkeep (by omega) x0 x1, wid_of (by omega) (by omega)]
    have hp := wid_pos n.toNat
    generalize wid n.toNat = W at q0 hp
    have h1 := Int.emod_nonneg x (show W ≠ 0 by omega)
    have h2 := Int.emod_lt_of_pos x (show 0 < W by omega)
    have h3 := Int.mul_ediv_add_emod x W
    have h4 := Int.mul_ediv_add_emod a W
    congr 1
    refine decide_eq_decide.2 ⟨fun h => ⟨rfl, by omega, by omega⟩, fun ⟨_, k1, k2⟩ => ?_⟩
    have e : x / W = a / W := by
      apply Int.le_antisymm
      · refine Int.le_of_lt_add_one (Int.ediv_lt_of_lt_mul (by omega) ?_)
        rw [Int.add_mul, Int.mul_comm (a / W) W]
        omega
      · refine Int.le_ediv_of_mul_le (by omega) ?_
        rw [Int.mul_comm]
        omega
    rw [e] at h3
    omega
  · change n < 0 at hpc
    rw [if_pos (by omega), decide_eq_false (by omega)]; rfl
end Go.Proofs.YtdkgekmjkindmaaDoor
