/- The reference's IpRead: by a run with letters. -/
import Derived.Test.YthjigajielhkfaaSyN
import Derived.Test.YthjigajielhkfaaIpRd0
import Derived.Test.YthjigajielhkfaaIpRdPl
namespace Go.Proofs.Ythjigajielhkfaa
open Go.RowKit Sy
set_option linter.unusedVariables false
set_option linter.unusedSimpArgs false

def strSt : Sy.St := ⟨[], [], ⟨[⟨.len (.sv 0), 0, 140737488351232⟩], []⟩, 0⟩
def strEnv (s : ByteArray) : Env := mkEnv [] [] [s] []
theorem strSt_ok (s : ByteArray) (h : s.size ≤ 140737488351232) : strSt.cx.ok (strEnv s) :=
  ⟨fun x hx => (by
    rcases List.mem_cons.1 hx with rfl | hx
    · show (0 : Int) ≤ (s.size : Int) ∧ (s.size : Int) ≤ 140737488351232
      omega
    · cases hx), fun t ht => (by cases ht)⟩
set_option maxRecDepth 100000 in
theorem ipRead_run : smR Try.prog Try.f16 0 (run Try.prog [numSp, sumSp] 10 400 0 (.code (bodyOf Try.f16)) (enterS Try.f16 [.one (.c (.str (.sv 0)))] strSt)) = some
    [(.ret (.tup [(.agg [(.int .u32 (.il 0)), (.int .u32 (.il 0)), (.int .i64 (.il 0)), (.int .i64 (.il 0)), (.int .i64 (.il 0)), (.bool (.bl false)), (.bool (.bl false)), (.int .i64 (.il 0)), (.str (.sl []))]), (.c (.int .i64 (.il 3)))]) [] [(.lt (.len (.sv 0)) (.il 20))]),
    (.ret (.tup [(.agg [(.int .u32 (.il 0)), (.int .u32 (.il 0)), (.int .i64 (.il 0)), (.int .i64 (.il 0)), (.int .i64 (.il 0)), (.bool (.bl false)), (.bool (.bl false)), (.int .i64 (.il 0)), (.str (.sl []))]), (.c (.int .i64 (.il 6)))]) [] [(.not (.eq (.byte (.sv 0) (.il 0)) (.il 69))), (.not (.lt (.len (.sv 0)) (.il 20)))]),
    (.ret (.tup [(.agg [(.int .u32 (.il 0)), (.int .u32 (.il 0)), (.int .i64 (.il 0)), (.int .i64 (.il 0)), (.int .i64 (.il 0)), (.bool (.bl false)), (.bool (.bl false)), (.int .i64 (.il 0)), (.str (.sl []))]), (.c (.int .i64 (.il 4)))]) [] [(.le (.il 32768) (.ap 0 (.cut (.sv 0) (.il 6) (.il 8)) (.il 0) (.il 0))), (.eq (.byte (.sv 0) (.il 1)) (.il 0)), (.eq (.byte (.sv 0) (.il 0)) (.il 69)), (.not (.lt (.len (.sv 0)) (.il 20)))]),
    (.ret (.tup [(.agg [(.int .u32 (.il 0)), (.int .u32 (.il 0)), (.int .i64 (.il 0)), (.int .i64 (.il 0)), (.int .i64 (.il 0)), (.bool (.bl false)), (.bool (.bl false)), (.int .i64 (.il 0)), (.str (.sl []))]), (.c (.int .i64 (.il 3)))]) [] [(.lt (.len (.sv 0)) (.ap 0 (.cut (.sv 0) (.il 2) (.il 4)) (.il 0) (.il 0))), (.not (.le (.il 32768) (.ap 0 (.cut (.sv 0) (.il 6) (.il 8)) (.il 0) (.il 0)))), (.eq (.byte (.sv 0) (.il 1)) (.il 0)), (.eq (.byte (.sv 0) (.il 0)) (.il 69)), (.not (.lt (.len (.sv 0)) (.il 20)))]),
    (.ret (.tup [(.agg [(.int .u32 (.il 0)), (.int .u32 (.il 0)), (.int .i64 (.il 0)), (.int .i64 (.il 0)), (.int .i64 (.il 0)), (.bool (.bl false)), (.bool (.bl false)), (.int .i64 (.il 0)), (.str (.sl []))]), (.c (.int .i64 (.il 4)))]) [] [(.lt (.ap 0 (.cut (.sv 0) (.il 2) (.il 4)) (.il 0) (.il 0)) (.len (.sv 0))), (.not (.lt (.len (.sv 0)) (.ap 0 (.cut (.sv 0) (.il 2) (.il 4)) (.il 0) (.il 0)))), (.not (.le (.il 32768) (.ap 0 (.cut (.sv 0) (.il 6) (.il 8)) (.il 0) (.il 0)))), (.eq (.byte (.sv 0) (.il 1)) (.il 0)), (.eq (.byte (.sv 0) (.il 0)) (.il 69)), (.not (.lt (.len (.sv 0)) (.il 20)))]),
    (.ret (.tup [(.agg [(.int .u32 (.il 0)), (.int .u32 (.il 0)), (.int .i64 (.il 0)), (.int .i64 (.il 0)), (.int .i64 (.il 0)), (.bool (.bl false)), (.bool (.bl false)), (.int .i64 (.il 0)), (.str (.sl []))]), (.c (.int .i64 (.il 5)))]) [] [(.not (.eq (.ap 0 (.cut (.sv 0) (.il 10) (.il 12)) (.il 0) (.il 0)) (.sub (.il 65535) (.ap 1 (.app (.cut (.sv 0) (.il 0) (.il 10)) (.cut (.sv 0) (.il 12) (.il 20))) (.il 0) (.il 0))))), (.not (.lt (.ap 0 (.cut (.sv 0) (.il 2) (.il 4)) (.il 0) (.il 0)) (.len (.sv 0)))), (.not (.lt (.len (.sv 0)) (.ap 0 (.cut (.sv 0) (.il 2) (.il 4)) (.il 0) (.il 0)))), (.not (.le (.il 32768) (.ap 0 (.cut (.sv 0) (.il 6) (.il 8)) (.il 0) (.il 0)))), (.eq (.byte (.sv 0) (.il 1)) (.il 0)), (.eq (.byte (.sv 0) (.il 0)) (.il 69)), (.not (.lt (.len (.sv 0)) (.il 20)))]),
    (.ret (.tup [(.agg [(.int .u32 (.il 0)), (.int .u32 (.il 0)), (.int .i64 (.il 0)), (.int .i64 (.il 0)), (.int .i64 (.il 0)), (.bool (.bl false)), (.bool (.bl false)), (.int .i64 (.il 0)), (.str (.sl []))]), (.c (.int .i64 (.il 2)))]) [] [(.lt (.il 1400) (.add (.len (.sv 0)) (.il (-20)))), (.eq (.ap 0 (.cut (.sv 0) (.il 10) (.il 12)) (.il 0) (.il 0)) (.sub (.il 65535) (.ap 1 (.app (.cut (.sv 0) (.il 0) (.il 10)) (.cut (.sv 0) (.il 12) (.il 20))) (.il 0) (.il 0)))), (.not (.lt (.ap 0 (.cut (.sv 0) (.il 2) (.il 4)) (.il 0) (.il 0)) (.len (.sv 0)))), (.not (.lt (.len (.sv 0)) (.ap 0 (.cut (.sv 0) (.il 2) (.il 4)) (.il 0) (.il 0)))), (.not (.le (.il 32768) (.ap 0 (.cut (.sv 0) (.il 6) (.il 8)) (.il 0) (.il 0)))), (.eq (.byte (.sv 0) (.il 1)) (.il 0)), (.eq (.byte (.sv 0) (.il 0)) (.il 69)), (.not (.lt (.len (.sv 0)) (.il 20)))]),
    (.ret (.tup [(.agg [(.int .u32 (.ap 0 (.cut (.sv 0) (.il 12) (.il 16)) (.il 0) (.il 0))), (.int .u32 (.ap 0 (.cut (.sv 0) (.il 16) (.il 20)) (.il 0) (.il 0))), (.int .i64 (.byte (.sv 0) (.il 9))), (.int .i64 (.byte (.sv 0) (.il 8))), (.int .i64 (.ap 0 (.cut (.sv 0) (.il 4) (.il 6)) (.il 0) (.il 0))), (.bool (.eq (.md (.dv (.ap 0 (.cut (.sv 0) (.il 6) (.il 8)) (.il 0) (.il 0)) (.il 16384)) (.il 2)) (.il 1))), (.bool (.eq (.md (.dv (.ap 0 (.cut (.sv 0) (.il 6) (.il 8)) (.il 0) (.il 0)) (.il 8192)) (.il 2)) (.il 1))), (.int .i64 (.md (.ap 0 (.cut (.sv 0) (.il 6) (.il 8)) (.il 0) (.il 0)) (.il 8192))), (.str (.cut (.sv 0) (.il 20) (.len (.sv 0))))]), (.c (.int .i64 (.il 0)))]) [] [(.not (.lt (.il 1400) (.add (.len (.sv 0)) (.il (-20))))), (.eq (.ap 0 (.cut (.sv 0) (.il 10) (.il 12)) (.il 0) (.il 0)) (.sub (.il 65535) (.ap 1 (.app (.cut (.sv 0) (.il 0) (.il 10)) (.cut (.sv 0) (.il 12) (.il 20))) (.il 0) (.il 0)))), (.not (.lt (.ap 0 (.cut (.sv 0) (.il 2) (.il 4)) (.il 0) (.il 0)) (.len (.sv 0)))), (.not (.lt (.len (.sv 0)) (.ap 0 (.cut (.sv 0) (.il 2) (.il 4)) (.il 0) (.il 0)))), (.not (.le (.il 32768) (.ap 0 (.cut (.sv 0) (.il 6) (.il 8)) (.il 0) (.il 0)))), (.eq (.byte (.sv 0) (.il 1)) (.il 0)), (.eq (.byte (.sv 0) (.il 0)) (.il 69)), (.not (.lt (.len (.sv 0)) (.il 20)))]),
    (.ret (.tup [(.agg [(.int .u32 (.il 0)), (.int .u32 (.il 0)), (.int .i64 (.il 0)), (.int .i64 (.il 0)), (.int .i64 (.il 0)), (.bool (.bl false)), (.bool (.bl false)), (.int .i64 (.il 0)), (.str (.sl []))]), (.c (.int .i64 (.il 4)))]) [] [(.not (.eq (.byte (.sv 0) (.il 1)) (.il 0))), (.eq (.byte (.sv 0) (.il 0)) (.il 69)), (.not (.lt (.len (.sv 0)) (.il 20)))])] := by kernel_rfl

theorem byte_head (l : List UInt8) (s : ByteArray) (hl : l = s.data.toList) (j : Nat) (hj : j < 20) : (byteAt (l.take 20) j : Int) = Sy.byteOf s j := by
  subst hl
  unfold byteAt Sy.byteOf
  rw [Int.toNat_natCast]
  congr 2
  rw [List.getD, List.getD, List.getElem?_take, if_pos hj]
theorem num_head (l : List UInt8) (s : ByteArray) (hl : l = s.data.toList) (i k : Nat) (h : i + k ≤ 20) : numL (((l.take 20).drop i).take k) = numL (s.extract i (i + k)).data.toList := by
  subst hl
  rw [Lib.extract_data, head_part _ i k h, show i + k - i = k from by omega]
theorem dont_eq (n : Nat) : (((n : Int) / 16384 % 2) == 1) = dontB n := by
  unfold dontB
  rw [show ((n : Int) / 16384 % 2 == 1) = decide ((n : Int) / 16384 % 2 = 1) from rfl]
  congr 1
  exact propext (by omega)
theorem more_eq (n : Nat) : (((n : Int) / 8192 % 2) == 1) = moreB n := by
  unfold moreB
  rw [show ((n : Int) / 8192 % 2 == 1) = decide ((n : Int) / 8192 % 2 = 1) from rfl]
  congr 1
  exact propext (by omega)
set_option maxRecDepth 100000 in
set_option maxHeartbeats 4000000 in
theorem ref_IpRead_any (s : ByteArray) (h : List UInt8) (hh : h = s.data.toList.take 20) (w : World) (hs : s.size ≤ 140737488351232) (h20 : 20 ≤ s.size) (er : Int)
    (he : ipErrN (byteAt h 0) (byteAt h 1) (numL ((h.drop 6).take 2)) (numL ((h.drop 2).take 2)) (numL ((h.drop 10).take 2)) s.size (fitN h) (ipChk (byteAt h 9) (byteAt h 8) (numL ((h.drop 4).take 2)) ((numL ((h.drop 6).take 2) % 8192 : Nat) : Int) (s.size - 20)) = er) :
    Calls Try.prog 16 #[.string s] w fun e w' =>
      e = .returned (.tuple #[.agg (if er = 0 then pktC (numL ((h.drop 12).take 4)) (numL ((h.drop 16).take 4)) (byteAt h 9) (byteAt h 8) (numL ((h.drop 4).take 2)) (dontB (numL ((h.drop 6).take 2))) (moreB (numL ((h.drop 6).take 2))) ((numL ((h.drop 6).take 2) % 8192 : Nat) : Int) (s.extract 20 s.size) else zeroPkt).toArray, .int .i64 er]) ∧ Below w.heap.size w w' := by
  have hll : s.data.toList.length = s.size := Lib.size_eq s
  have hf : fitN h = 65535 - (sumN (s.extract 0 10 ++ s.extract 12 20).data.toList : Int) := by
    rw [hh, zero10_sum _ (by simp; omega)]
    congr 2
    congr 1
    rw [ByteArray.data_append, Array.toList_append, Lib.extract_data, Lib.extract_data, List.take_take, List.drop_take]
    simp
  have n2 : numL (((s.data.toList.take 20).drop 2).take 2) = numL (s.extract 2 4).data.toList := num_head _ s rfl 2 2 (by omega)
  have n4 : numL (((s.data.toList.take 20).drop 4).take 2) = numL (s.extract 4 6).data.toList := num_head _ s rfl 4 2 (by omega)
  have n6 : numL (((s.data.toList.take 20).drop 6).take 2) = numL (s.extract 6 8).data.toList := num_head _ s rfl 6 2 (by omega)
  have n10 : numL (((s.data.toList.take 20).drop 10).take 2) = numL (s.extract 10 12).data.toList := num_head _ s rfl 10 2 (by omega)
  have n12 : numL (((s.data.toList.take 20).drop 12).take 4) = numL (s.extract 12 16).data.toList := num_head _ s rfl 12 4 (by omega)
  have n16 : numL (((s.data.toList.take 20).drop 16).take 4) = numL (s.extract 16 20).data.toList := num_head _ s rfl 16 4 (by omega)
  have b0 : (byteAt (s.data.toList.take 20) 0 : Int) = Sy.byteOf s 0 := byte_head _ s rfl 0 (by omega)
  have b1 : (byteAt (s.data.toList.take 20) 1 : Int) = Sy.byteOf s 1 := byte_head _ s rfl 1 (by omega)
  have b8 : (byteAt (s.data.toList.take 20) 8 : Int) = Sy.byteOf s 8 := byte_head _ s rfl 8 (by omega)
  have b9 : (byteAt (s.data.toList.take 20) 9 : Int) = Sy.byteOf s 9 := byte_head _ s rfl 9 (by omega)
  rw [hf] at he
  subst hh
  rw [n2, n4, n6, n10] at he
  rw [n4, n6, n12, n16]
  have c8 := byteOf_bd s 8
  have c9 := byteOf_bd s 9
  have l4 : numL (s.extract 4 6).data.toList ≤ 65535 := by
    have e4 : (s.extract 4 6).data.toList.length ≤ 2 := by rw [Lib.extract_data]; simp; omega
    have := numL_le e4
    omega
  have hchk : ipChk (byteAt (s.data.toList.take 20) 9) (byteAt (s.data.toList.take 20) 8) (numL (s.extract 4 6).data.toList) ((numL (s.extract 6 8).data.toList % 8192 : Nat) : Int) (s.size - 20) = if 1400 < s.size - 20 then 2 else 0 := by
    unfold ipChk
    rw [if_neg (by rw [b8, b9]; simp only [outB, Bool.or_eq_true, decide_eq_true_eq]; omega)]
  rw [hchk] at he
  unfold ipErrN at he
  rw [b0, b1] at he
  refine (calls_sm (B := ⟨strEnv s, fun _ => False, w, fun _ => 0, 0⟩) (sp := [numSp, sumSp]) (env_good _ _ _ _) (by
    intro q hq
    rcases List.mem_cons.1 hq with rfl | hq
    · exact numSp_ok rfl
    · rcases List.mem_cons.1 hq with rfl | hq
      · exact sumSp_ok rfl
      · cases hq) 10 400 Try.func16 rfl [.one (.c (.str (.sv 0)))] strSt _ 0 rfl ipRead_run (Md.start (strSt_ok s hs)) (R := fun v w' => v = .tuple #[.agg (if er = 0 then pktC (numL (s.extract 12 16).data.toList) (numL (s.extract 16 20).data.toList) (byteAt (s.data.toList.take 20) 9) (byteAt (s.data.toList.take 20) 8) (numL (s.extract 4 6).data.toList) (dontB (numL (s.extract 6 8).data.toList)) (moreB (numL (s.extract 6 8).data.toList)) ((numL (s.extract 6 8).data.toList % 8192 : Nat) : Int) (s.extract 20 s.size) else zeroPkt).toArray, .int .i64 er] ∧ Below w.heap.size w w') ?_ rfl).mono ?_
  · refine ⟨?_, ?_, ?_, ?_, ?_, ?_, ?_, ?_, ?_, trivial⟩
    all_goals
      intro hpc β w' hH
      simp only [pcs, den, strEnv, mkEnv, stdF, dI, dB, dS, List.getD_cons_zero, decide_eq_true_eq, Bool.not_eq_true', decide_eq_false_iff_not, beq_iff_eq, beq_eq_false_iff_ne, and_true] at hpc
      try simp only [show Int.toNat 0 = 0 from rfl, show Int.toNat 2 = 2 from rfl, show Int.toNat 4 = 4 from rfl, show Int.toNat 6 = 6 from rfl, show Int.toNat 8 = 8 from rfl, show Int.toNat 10 = 10 from rfl, show Int.toNat 12 = 12 from rfl, show Int.toNat 16 = 16 from rfl, show Int.toNat 20 = 20 from rfl] at hpc
      refine ⟨?_, Sy.Only.below_all hH.only⟩
    · have her : er = 3 := by (repeat' split at he) <;> omega
      rw [her, if_neg (by decide)]
      rfl
    · have her : er = 6 := by (repeat' split at he) <;> omega
      rw [her, if_neg (by decide)]
      rfl
    · have her : er = 4 := by (repeat' split at he) <;> omega
      rw [her, if_neg (by decide)]
      rfl
    · have her : er = 3 := by (repeat' split at he) <;> omega
      rw [her, if_neg (by decide)]
      rfl
    · have her : er = 4 := by (repeat' split at he) <;> omega
      rw [her, if_neg (by decide)]
      rfl
    · have her : er = 5 := by (repeat' split at he) <;> omega
      rw [her, if_neg (by decide)]
      rfl
    · have her : er = 2 := by (repeat' split at he) <;> omega
      rw [her, if_neg (by decide)]
      rfl
    · have her : er = 0 := by (repeat' split at he) <;> omega
      rw [her, if_pos rfl, b9, b8, ← dont_eq, ← more_eq]
      rfl
    · have her : er = 4 := by (repeat' split at he) <;> omega
      rw [her, if_neg (by decide)]
      rfl
  · rintro e w' ⟨v, rfl, rfl, hb⟩
    exact ⟨rfl, hb⟩
end Go.Proofs.Ythjigajielhkfaa
