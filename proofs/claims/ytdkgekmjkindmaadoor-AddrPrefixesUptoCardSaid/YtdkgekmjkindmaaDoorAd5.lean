/- Addresses printed: both sides. -/
import Derived.Test.YtdkgekmjkindmaaDoorAd4
namespace Go.Proofs.YtdkgekmjkindmaaDoor
open Go.RowKit Go.Lib Sy
set_option linter.unusedVariables false
set_option linter.unusedSimpArgs false
/-- Digits as the document writes them. -/
def digK (n : Nat) : List UInt8 :=
  if n < 10 then [UInt8.ofNat ((n + 48) % 256)] else if n / 10 < 10 then [UInt8.ofNat ((n / 10 + 48) % 256), UInt8.ofNat ((n % 10 + 48) % 256)]
  else [UInt8.ofNat ((n / 100 + 48) % 256), UInt8.ofNat ((n / 10 % 10 + 48) % 256), UInt8.ofNat ((n % 10 + 48) % 256)]
theorem dig_k : ((List.range 256).all fun n => decide (itoa ((n : Nat) : Int) = digK n)) = true := by kernel_rfl
theorem digS_k {n : Int} (h0 : 0 ≤ n) (h1 : n ≤ 255) : digS n = ⟨(digK n.toNat).toArray⟩ := by
  have := of_decide_eq_true (List.all_eq_true.1 dig_k n.toNat (List.mem_range.2 (by omega)))
  rw [Int.toNat_of_nonneg h0] at this
  unfold digS
  rw [this]
def adF : Nat → Dn → Dn → Dn → Dn := fun n x y z => match n with
  | 50 => dS (digS x.i)
  | 51 => dS (joinF x.c)
  | _ => x
def adE (a : Int) : Env := { mkEnv0 [] [] [] [] with i := fun j => if j = 20 then a else 0, f := adF, o := fun _ => libT }
def dgRun (P : Program) (fn : Func) : Rs := run P [] 10 400 2 (.code (bodyOf fn)) (enterS fn [.one (.c (.int .i64 (.iv 20)))] (libS [⟨.iv 20, 0, 255⟩] 30))
set_option maxRecDepth 100000 in
theorem dg_run : smR Tryd.prog Tryd.f24 2 (dgRun Tryd.prog Tryd.f24) = some [(.ret (.one (.c (.str (.chr (.add (.iv 20) (.il 48)))))) [libB] [(.lt (.iv 20) (.il 10))]), (.ret (.one (.c (.str (.app (.chr (.add (.dv (.iv 20) (.il 10)) (.il 48))) (.chr (.add (.md (.iv 20) (.il 10)) (.il 48))))))) [libB] [(.lt (.dv (.iv 20) (.il 10)) (.il 10)), (.not (.lt (.iv 20) (.il 10)))]), (.ret (.one (.c (.str (.app (.chr (.add (.dv (.iv 20) (.il 100)) (.il 48))) (.app (.chr (.add (.md (.dv (.iv 20) (.il 10)) (.il 10)) (.il 48))) (.chr (.add (.md (.iv 20) (.il 10)) (.il 48)))))))) [libB] [(.not (.lt (.dv (.iv 20) (.il 10)) (.il 10))), (.not (.lt (.iv 20) (.il 10)))])] := by kernel_rfl
theorem chr_nat (m : Nat) : chrOf ((m : Int) + 48) = ⟨#[UInt8.ofNat ((m + 48) % 256)]⟩ := by
  unfold chrOf
  rw [show (((m : Int) + 48) % 256).toNat = (m + 48) % 256 from by omega]
theorem dg_calls {n : Int} (h0 : 0 ≤ n) (h1 : n ≤ 255) {w : World} (hw : LibW w) : Calls Tryd.prog 24 #[.int .i64 n] w fun e w' => e = .returned (.string (digS n)) ∧ Below w.heap.size w w' := by
  have hM := lib_md (ρ := adE n) rfl hw (bs := [⟨.iv 20, 0, 255⟩]) (cxP ⟨⟨h0, h1⟩, trivial⟩ trivial) 30
  obtain ⟨m, rfl⟩ : ∃ m : Nat, n = (m : Int) := ⟨n.toNat, by omega⟩
  have hk := digS_k h0 h1
  rw [Int.toNat_natCast] at hk
  refine (calls_sm (B := ⟨adE m, fun _ => False, w, libβ, 2⟩) (sp := []) (fun i => rfl) (fun q hq => by cases hq) 10 400 Tryd.func24 rfl [.one (.c (.int .i64 (.iv 20)))] _ _ 2 rfl dg_run hM (R := fun v w' => v = .string (digS m) ∧ Below w.heap.size w w') ⟨?_, ?_, ?_, trivial⟩ rfl).mono ?_
  · intro hpc β w2 hH
    refine ⟨?_, Sy.Only.below_all hH.only⟩
    replace hpc : pcs (adE m) _ := hpc
    simp only [pcs, t_lt, t_not, i_iv, i_il, and_true] at hpc
    change (m : Int) < 10 at hpc
    show Value.string (chrOf ((m : Int) + 48)) = _
    rw [hk, chr_nat, digK, if_pos (by omega)]
  · intro hpc β w2 hH
    refine ⟨?_, Sy.Only.below_all hH.only⟩
    replace hpc : pcs (adE m) _ := hpc
    simp only [pcs, t_lt, t_not, i_iv, i_il, and_true] at hpc
    obtain ⟨q1, q2⟩ := hpc
    change (m : Int) / 10 < 10 at q1
    change ¬ (m : Int) < 10 at q2
    show Value.string (chrOf ((m : Int) / 10 + 48) ++ chrOf ((m : Int) % 10 + 48)) = _
    rw [hk, show (m : Int) / 10 = ((m / 10 : Nat) : Int) from rfl, show (m : Int) % 10 = ((m % 10 : Nat) : Int) from rfl, chr_nat, chr_nat, digK, if_neg (by omega), if_pos (by omega)]
    rfl
  · intro hpc β w2 hH
    refine ⟨?_, Sy.Only.below_all hH.only⟩
    replace hpc : pcs (adE m) _ := hpc
    simp only [pcs, t_lt, t_not, i_iv, i_il, and_true] at hpc
    obtain ⟨q1, q2⟩ := hpc
    change ¬ (m : Int) / 10 < 10 at q1
    change ¬ (m : Int) < 10 at q2
    show Value.string (chrOf ((m : Int) / 100 + 48) ++ (chrOf ((m : Int) / 10 % 10 + 48) ++ chrOf ((m : Int) % 10 + 48))) = _
    rw [hk, show (m : Int) / 100 = ((m / 100 : Nat) : Int) from rfl, show (m : Int) / 10 % 10 = ((m / 10 % 10 : Nat) : Int) from rfl, show (m : Int) % 10 = ((m % 10 : Nat) : Int) from rfl, chr_nat, chr_nat, chr_nat, digK, if_neg (by omega), if_neg (by omega)]
    rfl
  · rintro e w' ⟨v, rfl, rfl, hb⟩
    exact ⟨rfl, hb⟩
def dgSel (c : Cx) : List SV → Option (List Tm × SV × List Bd)
  | [.one (.c (.int .i64 t))] => some (need c (.le (.il 0) t) ++ need c (.le t (.il 255)), .one (.c (.str (apI 50 t))), [⟨.len (apI 50 t), 0, 3⟩])
  | _ => none
def dgSp : Sy.Spec := libSp 24 dgSel
theorem dgSp_ok {ρ : Env} (ho : ρ.o 0 = libT) (hf : ∀ x y z, ρ.f 50 x y z = dS (digS x.i)) : dgSp.Ok Tryd.prog ρ := by
  refine libSp_ok ho fun {c xs m v bs} hs hc hm β w hw => ?_
  unfold dgSel at hs
  split at hs
  · rename_i t
    injection hs with hs
    injection hs with h1 hs
    injection hs with h2 h3
    subst h1 h2 h3
    have q1 := need_ok hc hm.l
    have q2 := need_ok hc hm.r
    rw [t_le, i_il] at q1 q2
    refine ⟨fun y hy => ?_, ?_⟩
    · rw [List.mem_singleton] at hy
      subst hy
      show (0 : Int) ≤ (((ρ.f 50 _ _ _).s.size : Nat) : Int) ∧ (((ρ.f 50 _ _ _).s.size : Nat) : Int) ≤ 3
      rw [hf]
      have := dig_size q1 q2
      exact ⟨Int.natCast_nonneg _, by exact_mod_cast this⟩
    · refine (dg_calls q1 q2 hw).mono ?_
      rintro e w' ⟨rfl, hb⟩
      refine ⟨?_, hb⟩
      show _ = Ending.returned (.string (ρ.f 50 _ _ _).s)
      rw [hf]
      rfl
  · cases hs
/-! An address printed. -/
def byt (a : Int) (k : Nat) : Int := a / 2 ^ (8 * k) % 256
def prS (a : Int) : ByteArray := digS (a / 16777216) ++ (dot ++ (digS (a / 65536 % 256) ++ (dot ++ (digS (a / 256 % 256) ++ (dot ++ digS (a % 256))))))
def prBs : List Bd := [⟨.iv 20, 0, 4294967295⟩, ⟨.bop .and .u32 (.dv (.iv 20) (.il 16777216)) (.il 255), 0, 255⟩, ⟨.bop .and .u32 (.dv (.iv 20) (.il 65536)) (.il 255), 0, 255⟩, ⟨.bop .and .u32 (.dv (.iv 20) (.il 256)) (.il 255), 0, 255⟩, ⟨.bop .and .u32 (.iv 20) (.il 255), 0, 255⟩]
def arA : List SV := [.one (.c (.int .u32 (.iv 20)))]
def prRun (P : Program) (fn : Func) : Rs := run P [itSp, jnSp] 10 400 2 (.code (bodyOf fn)) (enterS fn arA (libS prBs 30))
def prRow (t : Tm) : Tm := .tb (.cons .str) (apI 50 t) trow (.il 0)
def prTab : Tm := .tb .app (prRow (.bop .and .u32 (.dv (.iv 20) (.il 16777216)) (.il 255))) (.tb .app (prRow (.bop .and .u32 (.dv (.iv 20) (.il 65536)) (.il 255))) (.tb .app (prRow (.bop .and .u32 (.dv (.iv 20) (.il 256)) (.il 255))) (prRow (.bop .and .u32 (.iv 20) (.il 255))) (.il 0)) (.il 0)) (.il 0)
set_option maxRecDepth 100000 in
theorem pr_run : smR Tryd.prog Tryd.f7 2 (prRun Tryd.prog Tryd.f7) = some [.must (.le (.len (apI 51 prTab)) (.il 140737488355328)) [], .ret (.one (.c (.str (apI 51 prTab)))) [libB] [.le (.len (apI 51 prTab)) (.il 140737488355328)]] := by kernel_rfl
def bt4 (t : Tm) : Tm := apI 50 (.byte (.chr t) (.il 0))
def apTm : Tm := .app (bt4 (.dv (.iv 20) (.il 16777216))) (.app (.sl [46]) (.app (bt4 (.md (.dv (.iv 20) (.il 65536)) (.il 256))) (.app (.sl [46]) (.app (bt4 (.md (.dv (.iv 20) (.il 256)) (.il 256))) (.app (.sl [46]) (bt4 (.md (.iv 20) (.il 256))))))))
def apRun (P : Program) (fn : Func) : Rs := run P [dgSp] 10 400 2 (.code (bodyOf fn)) (enterS fn arA (libS [⟨.iv 20, 0, 4294967295⟩] 30))
set_option maxRecDepth 100000 in
theorem ap_run : smR Tryd.prog Tryd.f8 2 (apRun Tryd.prog Tryd.f8) = some [.ret (.one (.c (.str apTm))) [libB] []] := by kernel_rfl
/-- The bytes of an address, as the program takes them. -/
theorem band255 {x : Int} (h0 : 0 ≤ x) (h1 : x ≤ 4294967295) : bits .and .u32 x 255 = x % 256 := by
  have h2 : (BitVec.ofInt 32 x &&& BitVec.ofInt 32 255).toNat = (x % 4294967296).toNat % 256 := by
    rw [BitVec.toNat_and]
    show (x % 4294967296).toNat &&& 255 = _
    exact Nat.and_two_pow_sub_one_eq_mod _ 8
  show IntKind.u32.wrap ((BitVec.ofInt 32 x &&& BitVec.ofInt 32 255).toNat : Int) = _
  rw [h2]
  have h3 : (((x % 4294967296).toNat % 256 : Nat) : Int) = x % 256 := by omega
  rw [h3]
  exact wrap_in (show (0 : Int) ≤ _ by omega) (show _ ≤ (4294967295 : Int) by omega)
theorem byte_chr {x : Int} (h0 : 0 ≤ x) (h1 : x ≤ 255) : Sy.byteOf (chrOf x) 0 = x := by
  show (((UInt8.ofNat (x % 256).toNat).toNat : Nat) : Int) = x
  rw [UInt8.toNat_ofNat']
  omega
theorem join4 (a b c d : ByteArray) : joinF [[.string a], [.string b], [.string c], [.string d]] = a ++ (dot ++ (b ++ (dot ++ (c ++ (dot ++ d))))) := by
  refine ByteArray.ext ?_
  apply Array.ext'
  unfold joinF
  simp only [List.map_cons, List.map_nil, rowS, Lib.join, List.intercalate, List.intersperse, List.flatten_cons, List.flatten_nil, ByteArray.data_append, Array.toList_append, List.append_nil]
theorem print_calls {a : Int} (a0 : 0 ≤ a) (a1 : a ≤ 4294967295) {w : World} (hw : LibW w) : Calls Tryd.prog 7 #[.int .u32 a] w fun e w' => e = .returned (.string (prS a)) ∧ Below w.heap.size w w' := by
  have e3 : bits .and .u32 (a / 16777216) 255 = a / 16777216 := by rw [band255 (by omega) (by omega)]; omega
  have e2 := band255 (x := a / 65536) (by omega) (by omega)
  have e1 := band255 (x := a / 256) (by omega) (by omega)
  have e0 := band255 (x := a) (by omega) (by omega)
  have hM := lib_md (ρ := adE a) rfl hw (bs := prBs) (cxP ⟨⟨a0, a1⟩, ⟨by change 0 ≤ bits .and .u32 (a / 16777216) 255; omega, by change bits .and .u32 (a / 16777216) 255 ≤ 255; omega⟩, ⟨by change 0 ≤ bits .and .u32 (a / 65536) 255; omega, by change bits .and .u32 (a / 65536) 255 ≤ 255; omega⟩, ⟨by change 0 ≤ bits .and .u32 (a / 256) 255; omega, by change bits .and .u32 (a / 256) 255 ≤ 255; omega⟩, ⟨by change 0 ≤ bits .and .u32 a 255; omega, by change bits .and .u32 a 255 ≤ 255; omega⟩, trivial⟩ trivial) 30
  have hj : (den (adE a) (apI 51 prTab)).s = prS a := by
    show joinF [[.string (digS (bits .and .u32 (a / 16777216) 255))], [.string (digS (bits .and .u32 (a / 65536) 255))], [.string (digS (bits .and .u32 (a / 256) 255))], [.string (digS (bits .and .u32 a 255))]] = _
    rw [join4, e3, e2, e1, e0]
    rfl
  refine (calls_sm (B := ⟨adE a, fun _ => False, w, libβ, 2⟩) (sp := [itSp, jnSp]) (fun i => rfl) ?_ 10 400 Tryd.func7 rfl arA _ _ 2 rfl pr_run hM (R := fun v w' => v = .string (prS a) ∧ Below w.heap.size w w') ⟨?_, ?_, trivial⟩ rfl).mono ?_
  · intro q hq
    simp only [List.mem_cons, List.not_mem_nil, or_false] at hq
    rcases hq with rfl | rfl
    · exact itSp_ok rfl fun _ _ _ => rfl
    · exact jnSp_ok fun _ _ _ => rfl
  · intro _
    show (den (adE a) (.le (.len (apI 51 prTab)) (.il 140737488355328))).b = true
    rw [t_le, i_il]
    show (((den (adE a) (apI 51 prTab)).s.size : Nat) : Int) ≤ _
    rw [hj]
    have s3 := dig_size (n := a / 16777216) (by omega) (by omega)
    have s2 := dig_size (n := a / 65536 % 256) (by omega) (by omega)
    have s1 := dig_size (n := a / 256 % 256) (by omega) (by omega)
    have s0 := dig_size (n := a % 256) (by omega) (by omega)
    have sd : dot.size = 1 := rfl
    unfold prS
    simp only [ByteArray.size_append]
    omega
  · intro _ β w2 hH
    refine ⟨?_, Sy.Only.below_all hH.only⟩
    show Value.string (den (adE a) (apI 51 prTab)).s = _
    rw [hj]
  · rintro e w' ⟨v, rfl, rfl, hb⟩
    exact ⟨rfl, hb⟩
theorem aprint_calls {a : Int} (a0 : 0 ≤ a) (a1 : a ≤ 4294967295) {w : World} (hw : LibW w) : Calls Tryd.prog 8 #[.int .u32 a] w fun e w' => e = .returned (.string (prS a)) ∧ Below w.heap.size w w' := by
  have hM := lib_md (ρ := adE a) rfl hw (bs := [⟨.iv 20, 0, 4294967295⟩]) (cxP ⟨⟨a0, a1⟩, trivial⟩ trivial) 30
  refine (calls_sm (B := ⟨adE a, fun _ => False, w, libβ, 2⟩) (sp := [dgSp]) (fun i => rfl) ?_ 10 400 Tryd.func8 rfl arA _ _ 2 rfl ap_run hM (R := fun v w' => v = .string (prS a) ∧ Below w.heap.size w w') ⟨?_, trivial⟩ rfl).mono ?_
  · intro q hq
    rw [List.mem_singleton] at hq
    subst hq
    exact dgSp_ok rfl fun _ _ _ => rfl
  · intro _ β w2 hH
    refine ⟨?_, Sy.Only.below_all hH.only⟩
    show Value.string (digS (Sy.byteOf (chrOf (a / 16777216)) 0) ++ (dot ++ (digS (Sy.byteOf (chrOf (a / 65536 % 256)) 0) ++ (dot ++ (digS (Sy.byteOf (chrOf (a / 256 % 256)) 0) ++ (dot ++ digS (Sy.byteOf (chrOf (a % 256)) 0))))))) = _
    rw [byte_chr (by omega) (by omega), byte_chr (by omega) (by omega), byte_chr (by omega) (by omega), byte_chr (by omega) (by omega)]
    rfl
  · rintro e w' ⟨v, rfl, rfl, hb⟩
    exact ⟨rfl, hb⟩
end Go.Proofs.YtdkgekmjkindmaaDoor
