/- The reference's TcpRead, by runs with letters. Printed by gen_tcprd.py. -/
import Derived.Test.YthjigajielhkfaaTcpOs
import Derived.Test.YthjigajielhkfaaTcpChk
namespace Go.Proofs.Ythjigajielhkfaa
open Go.RowKit Sy
set_option linter.unusedVariables false
set_option linter.unusedSimpArgs false

/-! What both come to. -/
def numA (s : ByteArray) (i j : Nat) : Int := (numL (s.extract i j).data.toList : Int)
def sumT : Tm := (.app (.chr (.dv (.iv 0) (.il 16777216))) (.app (.chr (.md (.dv (.iv 0) (.il 65536)) (.il 256))) (.app (.chr (.md (.dv (.iv 0) (.il 256)) (.il 256))) (.app (.chr (.md (.iv 0) (.il 256))) (.app (.chr (.dv (.iv 1) (.il 16777216))) (.app (.chr (.md (.dv (.iv 1) (.il 65536)) (.il 256))) (.app (.chr (.md (.dv (.iv 1) (.il 256)) (.il 256))) (.app (.chr (.md (.iv 1) (.il 256))) (.app (.sl [0, 6]) (.app (.chr (.md (.dv (.len (.sv 0)) (.il 256)) (.il 256))) (.app (.chr (.md (.len (.sv 0)) (.il 256))) (.app (.cut (.sv 0) (.il 0) (.il 16)) (.cut (.sv 0) (.il 18) (.len (.sv 0)))))))))))))))
def rdSum (src dst : Int) (s : ByteArray) : Int := (sumN (den (mkEnv [src, dst] [] [s] []) sumT).s.data.toList : Int)
def toT : Tm := .mul (.dv (.byte (.sv 0) (.il 12)) (.il 16)) (.il 4)
def rdTo (s : ByteArray) : Int := Sy.byteOf s 12 / 16 * 4
def rdSeg (s : ByteArray) (src dst m : Int) : Value :=
  segV src (numA s 0 2) dst (numA s 2 4) (numA s 4 8) (numA s 8 12) (decide (0 < Sy.byteOf s 13 / 2 % 2)) (decide (0 < Sy.byteOf s 13 / 16)) (decide (0 < Sy.byteOf s 13 % 2)) (decide (0 < Sy.byteOf s 13 / 4 % 2)) (numA s 14 16) m (s.extract (rdTo s).toNat s.size)
def rdChk (s : ByteArray) (m : Int) : Int :=
  tcpErr (numA s 0 2) (numA s 2 4) (numA s 8 12) (decide (0 < Sy.byteOf s 13 / 2 % 2)) (decide (0 < Sy.byteOf s 13 / 16)) (decide (0 < Sy.byteOf s 13 % 2)) (decide (0 < Sy.byteOf s 13 / 4 % 2)) (numA s 14 16) m (s.extract (rdTo s).toNat s.size).size
def zeroSeg : Value := segV 0 0 0 0 0 0 false false false false 0 0 none8
def rdErr (n too low told fit f z oe e : Int) : Int :=
  if n < 20 then 3 else if too < 20 ∨ low ≠ 0 then 4 else if n < too then 3 else if told ≠ 65535 - fit then 5 else if 31 < f ∨ 0 < z then 4 else if oe ≠ 0 then 4 else e
def rdOe : Option Int → Int
  | none => 4
  | some _ => 0
def rdEr (s : ByteArray) (src dst : Int) (r : Option Int) (e : Int) : Int :=
  rdErr s.size (rdTo s) (Sy.byteOf s 12 % 16) (numA s 16 18) (rdSum src dst s) (Sy.byteOf s 13) (numA s 18 20) (rdOe r) e
def rdVal (s : ByteArray) (src dst m er : Int) : Value := .tuple #[if er = 0 then rdSeg s src dst m else zeroSeg, .int .i64 er]
theorem rdVal_bad {s : ByteArray} {src dst m er : Int} (h : er ≠ 0) : rdVal s src dst m er = .tuple #[zeroSeg, .int .i64 er] := by
  unfold rdVal
  rw [if_neg h]
theorem numA_bd (s : ByteArray) (i j k : Nat) (h : j ≤ i + k) : 0 ≤ numA s i j ∧ numA s i j < 256 ^ k := by
  unfold numA
  have h1 := numL_le (l := (s.extract i j).data.toList) (k := k) (by simp; omega)
  have h2 := Nat.pow_pos (n := k) (show 0 < 256 by omega)
  rw [← pow_int]
  omega
structure RdIn (s : ByteArray) (src dst : Int) : Prop where
  a0 : 0 ≤ src
  a1 : src ≤ 4294967295
  b0 : 0 ≤ dst
  b1 : dst ≤ 4294967295
  s : s.size ≤ 140737488351232
theorem RdIn.seg {s : ByteArray} {src dst : Int} (h : RdIn s src dst) {m : Int} (h0 : 0 ≤ m) (h1 : m ≤ 65535) : SegIn src (numA s 0 2) dst (numA s 2 4) (numA s 4 8) (numA s 8 12) (numA s 14 16) m (s.extract (rdTo s).toNat s.size) := by
  have n1 := numA_bd s 0 2 2 (by omega)
  have n2 := numA_bd s 2 4 2 (by omega)
  have n3 := numA_bd s 4 8 4 (by omega)
  have n4 := numA_bd s 8 12 4 (by omega)
  have n5 := numA_bd s 14 16 2 (by omega)
  have hs := h.s
  have hz : (s.extract (rdTo s).toNat s.size).size ≤ s.size := by simp
  exact ⟨h.a0, h.a1, by omega, by omega, h.b0, h.b1, by omega, by omega, by omega, by omega, by omega, by omega, by omega, by omega, by omega, by omega, by omega⟩
def rdCx : Cx := ⟨[⟨.iv 0, 0, 4294967295⟩, ⟨.iv 1, 0, 4294967295⟩, ⟨.len (.sv 0), 0, 140737488351232⟩], []⟩
def rdArgs : List SV := [.one (.c (.int .u32 (.iv 0))), .one (.c (.int .u32 (.iv 1))), .one (.c (.str (.sv 0)))]
theorem rdCx_ok {s : ByteArray} {src dst : Int} (h : RdIn s src dst) {ρ : Env} (hs : ρ.s 0 = s) (h0 : ρ.i 0 = src) (h1 : ρ.i 1 = dst) : rdCx.ok ρ := by
  refine ⟨fun x hx => ?_, fun t ht => by cases ht⟩
  obtain ⟨a0, a1, b0, b1, hsz⟩ := h
  change x ∈ [_, _, _] at hx
  simp only [List.mem_cons, List.not_mem_nil, or_false] at hx
  rcases hx with rfl | rfl | rfl
  · show (0 : Int) ≤ ρ.i 0 ∧ ρ.i 0 ≤ 4294967295
    omega
  · show (0 : Int) ≤ ρ.i 1 ∧ ρ.i 1 ≤ 4294967295
    omega
  · show (0 : Int) ≤ ((ρ.s 0).size : Int) ∧ ((ρ.s 0).size : Int) ≤ 140737488351232
    rw [hs]
    omega

/-! The runs. -/
def rrP : List Nat := [1, 1, 1, 1, 1, 1, 1, 1, 1, 0, 1, 2]
def rrCx : Cx := ⟨[⟨.iv 0, 0, 4294967295⟩, ⟨.iv 1, 0, 4294967295⟩, ⟨.len (.sv 0), 0, 140737488351232⟩, ⟨.iv 2, 0, 65535⟩, ⟨.iv 5, 20, 140737488351232⟩], [.le toT (.len (.sv 0))]⟩
def rrC : List C := [(.int .u32 (.iv 0)), (.int .i64 (.ap 0 (.cut (.sv 0) (.il 0) (.il 2)) (.il 0) (.il 0))), (.int .u32 (.iv 1)), (.int .i64 (.ap 0 (.cut (.sv 0) (.il 2) (.il 4)) (.il 0) (.il 0))), (.int .u32 (.ap 0 (.cut (.sv 0) (.il 4) (.il 8)) (.il 0) (.il 0))), (.int .u32 (.ap 0 (.cut (.sv 0) (.il 8) (.il 12)) (.il 0) (.il 0))), (.bool (.lt (.il 0) (.md (.dv (.byte (.sv 0) (.il 13)) (.il 2)) (.il 2)))), (.bool (.lt (.il 0) (.dv (.byte (.sv 0) (.il 13)) (.il 16)))), (.bool (.lt (.il 0) (.md (.byte (.sv 0) (.il 13)) (.il 2)))), (.bool (.lt (.il 0) (.md (.dv (.byte (.sv 0) (.il 13)) (.il 4)) (.il 2)))), (.int .i64 (.ap 0 (.cut (.sv 0) (.il 14) (.il 16)) (.il 0) (.il 0))), (.int .i64 (.iv 2)), (.str (.cut (.sv 0) (.mul (.dv (.byte (.sv 0) (.il 12)) (.il 16)) (.il 4)) (.len (.sv 0))))]
def zeroC : List C := [(.int .u32 (.il 0)), (.int .i64 (.il 0)), (.int .u32 (.il 0)), (.int .i64 (.il 0)), (.int .u32 (.il 0)), (.int .u32 (.il 0)), (.bool (.bl false)), (.bool (.bl false)), (.bool (.bl false)), (.bool (.bl false)), (.int .i64 (.il 0)), (.int .i64 (.il 0)), (.str (.sl []))]
def rrT : Sy.St := ⟨[.one (.c (.int .u32 (.iv 0))), .one (.c (.int .u32 (.iv 1))), .one (.c (.str (.sv 0))), .any 3, .any 4, .any 5, .one (.c (.ptr 0 0)), .any 7, .one (.c (.int .i64 toT)), .any 9, .one (.c (.ptr 150 0)), .one (.c (.int .i64 (.iv 5)))] ++ anys 12 160, [⟨150, 33, rrC, true, none⟩, ⟨0, 33, zeroC, true, none⟩], rrCx, 200⟩
def rr0 (P : Program) (fn : Func) : Rs := run P [numSp, sumSp] 10 400 0 (.code (pre rrP (bodyOf fn))) (enterS fn rdArgs ⟨[], [], rdCx, 0⟩)
def rr1 (P : Program) (fn : Func) : Rs := run P [numSp, sumSp] 10 400 0 (.code (lpBody (Sy.sub rrP (bodyOf fn)))) rrT
def rrChk : Sy.Spec := fixSp 22 (fun xs => sameT xs [.one (.agg rrC)]) (.one (.c (.int .i64 (.iv 3))))
set_option maxRecDepth 100000 in
theorem rr_run0 : shR none (rr0 Try.prog Try.f108) = some
    [(.out 0 .ret [(.lt (.len (.sv 0)) (.il 20))]),
    (.out 1 .ret [(.lt (.il 0) (.md (.byte (.sv 0) (.il 12)) (.il 16))), (.not (.lt (.mul (.dv (.byte (.sv 0) (.il 12)) (.il 16)) (.il 4)) (.il 20))), (.not (.lt (.len (.sv 0)) (.il 20)))]),
    (.out 2 .ret [(.lt (.len (.sv 0)) (.mul (.dv (.byte (.sv 0) (.il 12)) (.il 16)) (.il 4))), (.not (.lt (.il 0) (.md (.byte (.sv 0) (.il 12)) (.il 16)))), (.not (.lt (.mul (.dv (.byte (.sv 0) (.il 12)) (.il 16)) (.il 4)) (.il 20))), (.not (.lt (.len (.sv 0)) (.il 20)))]),
    (.out 3 .ret [(.not (.eq (.ap 0 (.cut (.sv 0) (.il 16) (.il 18)) (.il 0) (.il 0)) (.sub (.il 65535) (.ap 1 sumT (.il 0) (.il 0))))), (.not (.lt (.len (.sv 0)) (.mul (.dv (.byte (.sv 0) (.il 12)) (.il 16)) (.il 4)))), (.not (.lt (.il 0) (.md (.byte (.sv 0) (.il 12)) (.il 16)))), (.not (.lt (.mul (.dv (.byte (.sv 0) (.il 12)) (.il 16)) (.il 4)) (.il 20))), (.not (.lt (.len (.sv 0)) (.il 20)))]),
    (.out 4 .ret [(.lt (.il 0) (.ap 0 (.cut (.sv 0) (.il 18) (.il 20)) (.il 0) (.il 0))), (.not (.lt (.il 31) (.byte (.sv 0) (.il 13)))), (.eq (.ap 0 (.cut (.sv 0) (.il 16) (.il 18)) (.il 0) (.il 0)) (.sub (.il 65535) (.ap 1 sumT (.il 0) (.il 0)))), (.not (.lt (.len (.sv 0)) (.mul (.dv (.byte (.sv 0) (.il 12)) (.il 16)) (.il 4)))), (.not (.lt (.il 0) (.md (.byte (.sv 0) (.il 12)) (.il 16)))), (.not (.lt (.mul (.dv (.byte (.sv 0) (.il 12)) (.il 16)) (.il 4)) (.il 20))), (.not (.lt (.len (.sv 0)) (.il 20)))]),
    (.out 5 .normal [(.not (.lt (.il 0) (.ap 0 (.cut (.sv 0) (.il 18) (.il 20)) (.il 0) (.il 0)))), (.not (.lt (.il 31) (.byte (.sv 0) (.il 13)))), (.eq (.ap 0 (.cut (.sv 0) (.il 16) (.il 18)) (.il 0) (.il 0)) (.sub (.il 65535) (.ap 1 sumT (.il 0) (.il 0)))), (.not (.lt (.len (.sv 0)) (.mul (.dv (.byte (.sv 0) (.il 12)) (.il 16)) (.il 4)))), (.not (.lt (.il 0) (.md (.byte (.sv 0) (.il 12)) (.il 16)))), (.not (.lt (.mul (.dv (.byte (.sv 0) (.il 12)) (.il 16)) (.il 4)) (.il 20))), (.not (.lt (.len (.sv 0)) (.il 20)))]),
    (.out 6 .ret [(.lt (.il 31) (.byte (.sv 0) (.il 13))), (.eq (.ap 0 (.cut (.sv 0) (.il 16) (.il 18)) (.il 0) (.il 0)) (.sub (.il 65535) (.ap 1 sumT (.il 0) (.il 0)))), (.not (.lt (.len (.sv 0)) (.mul (.dv (.byte (.sv 0) (.il 12)) (.il 16)) (.il 4)))), (.not (.lt (.il 0) (.md (.byte (.sv 0) (.il 12)) (.il 16)))), (.not (.lt (.mul (.dv (.byte (.sv 0) (.il 12)) (.il 16)) (.il 4)) (.il 20))), (.not (.lt (.len (.sv 0)) (.il 20)))]),
    (.out 7 .ret [(.lt (.mul (.dv (.byte (.sv 0) (.il 12)) (.il 16)) (.il 4)) (.il 20)), (.not (.lt (.len (.sv 0)) (.il 20)))])] := by kernel_rfl
set_option maxRecDepth 100000 in
theorem rr_match : (matchS rrT (lfAt (rr0 Try.prog Try.f108) 5)).map noU = some [.i 5 (.il 20), .i 2 (.il 0)] := by kernel_rfl
set_option maxRecDepth 100000 in
theorem rr_run1 : shR (some rrT) (rr1 Try.prog Try.f108) = some
    [(.must (.lt (.iv 5) (.len (.sv 0))) [(.lt (.iv 5) (.mul (.dv (.byte (.sv 0) (.il 12)) (.il 16)) (.il 4))), (.le (.mul (.dv (.byte (.sv 0) (.il 12)) (.il 16)) (.il 4)) (.len (.sv 0)))]),
    (.out 1 (.exit 0) [(.eq (.byte (.sv 0) (.iv 5)) (.il 0)), (.lt (.iv 5) (.len (.sv 0))), (.lt (.iv 5) (.mul (.dv (.byte (.sv 0) (.il 12)) (.il 16)) (.il 4))), (.le (.mul (.dv (.byte (.sv 0) (.il 12)) (.il 16)) (.il 4)) (.len (.sv 0)))]),
    (.out 2 .ret [(.eq (.add (.iv 5) (.il 1)) (.mul (.dv (.byte (.sv 0) (.il 12)) (.il 16)) (.il 4))), (.lt (.il 1) (.byte (.sv 0) (.iv 5))), (.not (.eq (.byte (.sv 0) (.iv 5)) (.il 0))), (.lt (.iv 5) (.len (.sv 0))), (.lt (.iv 5) (.mul (.dv (.byte (.sv 0) (.il 12)) (.il 16)) (.il 4))), (.le (.mul (.dv (.byte (.sv 0) (.il 12)) (.il 16)) (.il 4)) (.len (.sv 0)))]),
    (.must (.lt (.add (.iv 5) (.il 1)) (.len (.sv 0))) [(.not (.eq (.add (.iv 5) (.il 1)) (.mul (.dv (.byte (.sv 0) (.il 12)) (.il 16)) (.il 4)))), (.lt (.il 1) (.byte (.sv 0) (.iv 5))), (.not (.eq (.byte (.sv 0) (.iv 5)) (.il 0))), (.lt (.iv 5) (.len (.sv 0))), (.lt (.iv 5) (.mul (.dv (.byte (.sv 0) (.il 12)) (.il 16)) (.il 4))), (.le (.mul (.dv (.byte (.sv 0) (.il 12)) (.il 16)) (.il 4)) (.len (.sv 0)))]),
    (.out 4 .ret [(.not (.eq (.byte (.sv 0) (.add (.iv 5) (.il 1))) (.il 4))), (.eq (.byte (.sv 0) (.iv 5)) (.il 2)), (.not (.lt (.mul (.dv (.byte (.sv 0) (.il 12)) (.il 16)) (.il 4)) (.add (.iv 5) (.byte (.sv 0) (.add (.iv 5) (.il 1)))))), (.not (.lt (.byte (.sv 0) (.add (.iv 5) (.il 1))) (.il 2))), (.lt (.add (.iv 5) (.il 1)) (.len (.sv 0))), (.not (.eq (.add (.iv 5) (.il 1)) (.mul (.dv (.byte (.sv 0) (.il 12)) (.il 16)) (.il 4)))), (.lt (.il 1) (.byte (.sv 0) (.iv 5))), (.not (.eq (.byte (.sv 0) (.iv 5)) (.il 0))), (.lt (.iv 5) (.len (.sv 0))), (.lt (.iv 5) (.mul (.dv (.byte (.sv 0) (.il 12)) (.il 16)) (.il 4))), (.le (.mul (.dv (.byte (.sv 0) (.il 12)) (.il 16)) (.il 4)) (.len (.sv 0)))]),
    (.must (.le (.add (.iv 5) (.il 2)) (.add (.iv 5) (.il 4))) [(.eq (.byte (.sv 0) (.add (.iv 5) (.il 1))) (.il 4)), (.eq (.byte (.sv 0) (.iv 5)) (.il 2)), (.not (.lt (.mul (.dv (.byte (.sv 0) (.il 12)) (.il 16)) (.il 4)) (.add (.iv 5) (.byte (.sv 0) (.add (.iv 5) (.il 1)))))), (.not (.lt (.byte (.sv 0) (.add (.iv 5) (.il 1))) (.il 2))), (.lt (.add (.iv 5) (.il 1)) (.len (.sv 0))), (.not (.eq (.add (.iv 5) (.il 1)) (.mul (.dv (.byte (.sv 0) (.il 12)) (.il 16)) (.il 4)))), (.lt (.il 1) (.byte (.sv 0) (.iv 5))), (.not (.eq (.byte (.sv 0) (.iv 5)) (.il 0))), (.lt (.iv 5) (.len (.sv 0))), (.lt (.iv 5) (.mul (.dv (.byte (.sv 0) (.il 12)) (.il 16)) (.il 4))), (.le (.mul (.dv (.byte (.sv 0) (.il 12)) (.il 16)) (.il 4)) (.len (.sv 0)))]),
    (.must (.le (.add (.iv 5) (.il 4)) (.len (.sv 0))) [(.le (.add (.iv 5) (.il 2)) (.add (.iv 5) (.il 4))), (.eq (.byte (.sv 0) (.add (.iv 5) (.il 1))) (.il 4)), (.eq (.byte (.sv 0) (.iv 5)) (.il 2)), (.not (.lt (.mul (.dv (.byte (.sv 0) (.il 12)) (.il 16)) (.il 4)) (.add (.iv 5) (.byte (.sv 0) (.add (.iv 5) (.il 1)))))), (.not (.lt (.byte (.sv 0) (.add (.iv 5) (.il 1))) (.il 2))), (.lt (.add (.iv 5) (.il 1)) (.len (.sv 0))), (.not (.eq (.add (.iv 5) (.il 1)) (.mul (.dv (.byte (.sv 0) (.il 12)) (.il 16)) (.il 4)))), (.lt (.il 1) (.byte (.sv 0) (.iv 5))), (.not (.eq (.byte (.sv 0) (.iv 5)) (.il 0))), (.lt (.iv 5) (.len (.sv 0))), (.lt (.iv 5) (.mul (.dv (.byte (.sv 0) (.il 12)) (.il 16)) (.il 4))), (.le (.mul (.dv (.byte (.sv 0) (.il 12)) (.il 16)) (.il 4)) (.len (.sv 0)))]),
    (.must (.le (.sub (.add (.iv 5) (.il 4)) (.add (.iv 5) (.il 2))) (.il 8)) [(.le (.add (.iv 5) (.il 4)) (.len (.sv 0))), (.le (.add (.iv 5) (.il 2)) (.add (.iv 5) (.il 4))), (.eq (.byte (.sv 0) (.add (.iv 5) (.il 1))) (.il 4)), (.eq (.byte (.sv 0) (.iv 5)) (.il 2)), (.not (.lt (.mul (.dv (.byte (.sv 0) (.il 12)) (.il 16)) (.il 4)) (.add (.iv 5) (.byte (.sv 0) (.add (.iv 5) (.il 1)))))), (.not (.lt (.byte (.sv 0) (.add (.iv 5) (.il 1))) (.il 2))), (.lt (.add (.iv 5) (.il 1)) (.len (.sv 0))), (.not (.eq (.add (.iv 5) (.il 1)) (.mul (.dv (.byte (.sv 0) (.il 12)) (.il 16)) (.il 4)))), (.lt (.il 1) (.byte (.sv 0) (.iv 5))), (.not (.eq (.byte (.sv 0) (.iv 5)) (.il 0))), (.lt (.iv 5) (.len (.sv 0))), (.lt (.iv 5) (.mul (.dv (.byte (.sv 0) (.il 12)) (.il 16)) (.il 4))), (.le (.mul (.dv (.byte (.sv 0) (.il 12)) (.il 16)) (.il 4)) (.len (.sv 0)))]),
    (.back [(.i 5 (.add (.iv 5) (.byte (.sv 0) (.add (.iv 5) (.il 1))))), (.i 2 (.wrap .i64 (.ap 0 (.cut (.sv 0) (.add (.iv 5) (.il 2)) (.add (.iv 5) (.il 4))) (.il 0) (.il 0))))] [(.le (.sub (.add (.iv 5) (.il 4)) (.add (.iv 5) (.il 2))) (.il 8)), (.le (.add (.iv 5) (.il 4)) (.len (.sv 0))), (.le (.add (.iv 5) (.il 2)) (.add (.iv 5) (.il 4))), (.eq (.byte (.sv 0) (.add (.iv 5) (.il 1))) (.il 4)), (.eq (.byte (.sv 0) (.iv 5)) (.il 2)), (.not (.lt (.mul (.dv (.byte (.sv 0) (.il 12)) (.il 16)) (.il 4)) (.add (.iv 5) (.byte (.sv 0) (.add (.iv 5) (.il 1)))))), (.not (.lt (.byte (.sv 0) (.add (.iv 5) (.il 1))) (.il 2))), (.lt (.add (.iv 5) (.il 1)) (.len (.sv 0))), (.not (.eq (.add (.iv 5) (.il 1)) (.mul (.dv (.byte (.sv 0) (.il 12)) (.il 16)) (.il 4)))), (.lt (.il 1) (.byte (.sv 0) (.iv 5))), (.not (.eq (.byte (.sv 0) (.iv 5)) (.il 0))), (.lt (.iv 5) (.len (.sv 0))), (.lt (.iv 5) (.mul (.dv (.byte (.sv 0) (.il 12)) (.il 16)) (.il 4))), (.le (.mul (.dv (.byte (.sv 0) (.il 12)) (.il 16)) (.il 4)) (.len (.sv 0)))]),
    (.back [(.i 5 (.add (.iv 5) (.byte (.sv 0) (.add (.iv 5) (.il 1)))))] [(.not (.eq (.byte (.sv 0) (.iv 5)) (.il 2))), (.not (.lt (.mul (.dv (.byte (.sv 0) (.il 12)) (.il 16)) (.il 4)) (.add (.iv 5) (.byte (.sv 0) (.add (.iv 5) (.il 1)))))), (.not (.lt (.byte (.sv 0) (.add (.iv 5) (.il 1))) (.il 2))), (.lt (.add (.iv 5) (.il 1)) (.len (.sv 0))), (.not (.eq (.add (.iv 5) (.il 1)) (.mul (.dv (.byte (.sv 0) (.il 12)) (.il 16)) (.il 4)))), (.lt (.il 1) (.byte (.sv 0) (.iv 5))), (.not (.eq (.byte (.sv 0) (.iv 5)) (.il 0))), (.lt (.iv 5) (.len (.sv 0))), (.lt (.iv 5) (.mul (.dv (.byte (.sv 0) (.il 12)) (.il 16)) (.il 4))), (.le (.mul (.dv (.byte (.sv 0) (.il 12)) (.il 16)) (.il 4)) (.len (.sv 0)))]),
    (.out 10 .ret [(.lt (.mul (.dv (.byte (.sv 0) (.il 12)) (.il 16)) (.il 4)) (.add (.iv 5) (.byte (.sv 0) (.add (.iv 5) (.il 1))))), (.not (.lt (.byte (.sv 0) (.add (.iv 5) (.il 1))) (.il 2))), (.lt (.add (.iv 5) (.il 1)) (.len (.sv 0))), (.not (.eq (.add (.iv 5) (.il 1)) (.mul (.dv (.byte (.sv 0) (.il 12)) (.il 16)) (.il 4)))), (.lt (.il 1) (.byte (.sv 0) (.iv 5))), (.not (.eq (.byte (.sv 0) (.iv 5)) (.il 0))), (.lt (.iv 5) (.len (.sv 0))), (.lt (.iv 5) (.mul (.dv (.byte (.sv 0) (.il 12)) (.il 16)) (.il 4))), (.le (.mul (.dv (.byte (.sv 0) (.il 12)) (.il 16)) (.il 4)) (.len (.sv 0)))]),
    (.out 11 .ret [(.lt (.byte (.sv 0) (.add (.iv 5) (.il 1))) (.il 2)), (.lt (.add (.iv 5) (.il 1)) (.len (.sv 0))), (.not (.eq (.add (.iv 5) (.il 1)) (.mul (.dv (.byte (.sv 0) (.il 12)) (.il 16)) (.il 4)))), (.lt (.il 1) (.byte (.sv 0) (.iv 5))), (.not (.eq (.byte (.sv 0) (.iv 5)) (.il 0))), (.lt (.iv 5) (.len (.sv 0))), (.lt (.iv 5) (.mul (.dv (.byte (.sv 0) (.il 12)) (.il 16)) (.il 4))), (.le (.mul (.dv (.byte (.sv 0) (.il 12)) (.il 16)) (.il 4)) (.len (.sv 0)))]),
    (.back [(.i 5 (.add (.iv 5) (.il 1)))] [(.not (.lt (.il 1) (.byte (.sv 0) (.iv 5)))), (.not (.eq (.byte (.sv 0) (.iv 5)) (.il 0))), (.lt (.iv 5) (.len (.sv 0))), (.lt (.iv 5) (.mul (.dv (.byte (.sv 0) (.il 12)) (.il 16)) (.il 4))), (.le (.mul (.dv (.byte (.sv 0) (.il 12)) (.il 16)) (.il 4)) (.len (.sv 0)))]),
    (.out 13 (.exit 0) [(.not (.lt (.iv 5) (.mul (.dv (.byte (.sv 0) (.il 12)) (.il 16)) (.il 4)))), (.le (.mul (.dv (.byte (.sv 0) (.il 12)) (.il 16)) (.il 4)) (.len (.sv 0)))])] := by kernel_rfl
set_option maxRecDepth 100000 in
theorem rr_aft1 : smR Try.prog Try.f108 0 (run Try.prog [numSp, sumSp, rrChk] 10 400 0 (.code (aft (.exit 0) rrP (bodyOf Try.f108))) (lfAt (rr1 Try.prog Try.f108) 1)) = some
    [(.ret (.tup [(.agg [(.int .u32 (.il 0)), (.int .i64 (.il 0)), (.int .u32 (.il 0)), (.int .i64 (.il 0)), (.int .u32 (.il 0)), (.int .u32 (.il 0)), (.bool (.bl false)), (.bool (.bl false)), (.bool (.bl false)), (.bool (.bl false)), (.int .i64 (.il 0)), (.int .i64 (.il 0)), (.str (.sl []))]), (.c (.int .i64 (.iv 3)))]) [] [(.not (.eq (.iv 3) (.il 0))), (.eq (.byte (.sv 0) (.iv 5)) (.il 0)), (.lt (.iv 5) (.len (.sv 0))), (.lt (.iv 5) (.mul (.dv (.byte (.sv 0) (.il 12)) (.il 16)) (.il 4))), (.le (.mul (.dv (.byte (.sv 0) (.il 12)) (.il 16)) (.il 4)) (.len (.sv 0)))]),
    (.ret (.tup [(.agg [(.int .u32 (.iv 0)), (.int .i64 (.ap 0 (.cut (.sv 0) (.il 0) (.il 2)) (.il 0) (.il 0))), (.int .u32 (.iv 1)), (.int .i64 (.ap 0 (.cut (.sv 0) (.il 2) (.il 4)) (.il 0) (.il 0))), (.int .u32 (.ap 0 (.cut (.sv 0) (.il 4) (.il 8)) (.il 0) (.il 0))), (.int .u32 (.ap 0 (.cut (.sv 0) (.il 8) (.il 12)) (.il 0) (.il 0))), (.bool (.lt (.il 0) (.md (.dv (.byte (.sv 0) (.il 13)) (.il 2)) (.il 2)))), (.bool (.lt (.il 0) (.dv (.byte (.sv 0) (.il 13)) (.il 16)))), (.bool (.lt (.il 0) (.md (.byte (.sv 0) (.il 13)) (.il 2)))), (.bool (.lt (.il 0) (.md (.dv (.byte (.sv 0) (.il 13)) (.il 4)) (.il 2)))), (.int .i64 (.ap 0 (.cut (.sv 0) (.il 14) (.il 16)) (.il 0) (.il 0))), (.int .i64 (.iv 2)), (.str (.cut (.sv 0) (.mul (.dv (.byte (.sv 0) (.il 12)) (.il 16)) (.il 4)) (.len (.sv 0))))]), (.c (.int .i64 (.il 0)))]) [] [(.eq (.iv 3) (.il 0)), (.eq (.byte (.sv 0) (.iv 5)) (.il 0)), (.lt (.iv 5) (.len (.sv 0))), (.lt (.iv 5) (.mul (.dv (.byte (.sv 0) (.il 12)) (.il 16)) (.il 4))), (.le (.mul (.dv (.byte (.sv 0) (.il 12)) (.il 16)) (.il 4)) (.len (.sv 0)))])] := by kernel_rfl
set_option maxRecDepth 100000 in
theorem rr_aft13 : smR Try.prog Try.f108 0 (run Try.prog [numSp, sumSp, rrChk] 10 400 0 (.code (aft (.exit 0) rrP (bodyOf Try.f108))) (lfAt (rr1 Try.prog Try.f108) 13)) = some
    [(.ret (.tup [(.agg [(.int .u32 (.il 0)), (.int .i64 (.il 0)), (.int .u32 (.il 0)), (.int .i64 (.il 0)), (.int .u32 (.il 0)), (.int .u32 (.il 0)), (.bool (.bl false)), (.bool (.bl false)), (.bool (.bl false)), (.bool (.bl false)), (.int .i64 (.il 0)), (.int .i64 (.il 0)), (.str (.sl []))]), (.c (.int .i64 (.iv 3)))]) [] [(.not (.eq (.iv 3) (.il 0))), (.not (.lt (.iv 5) (.mul (.dv (.byte (.sv 0) (.il 12)) (.il 16)) (.il 4)))), (.le (.mul (.dv (.byte (.sv 0) (.il 12)) (.il 16)) (.il 4)) (.len (.sv 0)))]),
    (.ret (.tup [(.agg [(.int .u32 (.iv 0)), (.int .i64 (.ap 0 (.cut (.sv 0) (.il 0) (.il 2)) (.il 0) (.il 0))), (.int .u32 (.iv 1)), (.int .i64 (.ap 0 (.cut (.sv 0) (.il 2) (.il 4)) (.il 0) (.il 0))), (.int .u32 (.ap 0 (.cut (.sv 0) (.il 4) (.il 8)) (.il 0) (.il 0))), (.int .u32 (.ap 0 (.cut (.sv 0) (.il 8) (.il 12)) (.il 0) (.il 0))), (.bool (.lt (.il 0) (.md (.dv (.byte (.sv 0) (.il 13)) (.il 2)) (.il 2)))), (.bool (.lt (.il 0) (.dv (.byte (.sv 0) (.il 13)) (.il 16)))), (.bool (.lt (.il 0) (.md (.byte (.sv 0) (.il 13)) (.il 2)))), (.bool (.lt (.il 0) (.md (.dv (.byte (.sv 0) (.il 13)) (.il 4)) (.il 2)))), (.int .i64 (.ap 0 (.cut (.sv 0) (.il 14) (.il 16)) (.il 0) (.il 0))), (.int .i64 (.iv 2)), (.str (.cut (.sv 0) (.mul (.dv (.byte (.sv 0) (.il 12)) (.il 16)) (.il 4)) (.len (.sv 0))))]), (.c (.int .i64 (.il 0)))]) [] [(.eq (.iv 3) (.il 0)), (.not (.lt (.iv 5) (.mul (.dv (.byte (.sv 0) (.il 12)) (.il 16)) (.il 4)))), (.le (.mul (.dv (.byte (.sv 0) (.il 12)) (.il 16)) (.il 4)) (.len (.sv 0)))])] := by kernel_rfl
set_option maxRecDepth 100000 in
theorem rr_ret0 : [0, 1, 2, 3, 4, 6, 7].map (fun k => retS Try.prog (lfAt (rr0 Try.prog Try.f108) k) Try.f108.results.toList) = [3, 4, 3, 5, 4, 4, 4].map (fun n => some (.tup [.agg zeroC, .c (.int .i64 (.il n))])) := by kernel_rfl
set_option maxRecDepth 100000 in
theorem rr_ret1 : [2, 4, 10, 11].map (fun k => retS Try.prog (lfAt (rr1 Try.prog Try.f108) k) Try.f108.results.toList) = [4, 4, 4, 4].map (fun n => some (.tup [.agg zeroC, .c (.int .i64 (.il n))])) := by kernel_rfl
theorem rr_loop : Code.loop (lpBody (Sy.sub rrP (bodyOf Try.f108))) = Sy.sub rrP (bodyOf Try.f108) := by kernel_rfl

end Go.Proofs.Ythjigajielhkfaa
